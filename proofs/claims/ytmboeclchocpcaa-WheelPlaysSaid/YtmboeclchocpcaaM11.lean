import Derived.Test.YtmboeclchocpcaaM10
set_option linter.unusedSimpArgs false
set_option linter.unusedVariables false
namespace Go.AM
open Go
set_option maxRecDepth 20000
def y23a1:LCode:=(.sq [(zv 35 9),(zs 36 (.bin .sub .sc (.t 35) (zi 1))),(zs 9 (.mv true (.t 36)))])
def y23a2:LCode:=(.seq (.block 3 (.tree (.rd (zv 37 0) 0 false (.rd (zv 38 9) 1 false (.rd (zv 39 0) 2 true (.rd (zv 40 9) 3 true (.rd (zs 41 (.bin .sub .sc (.t 40) (zi 1))) 4 true (.rd (zv 42 0) 5 false (.rd (zv 43 9) 6 false (.rd (zs 44 (.bin .sub .sc (.t 43) (zi 1))) 7 false (.rd (zs 45 (.ixa (.sl 1) (.t 42) (.t 44))) 8 false (.rd (zs 46 (.load1 false (.t 45))) 9 false (.rd (zv 47 0) 10 false (.rd (zv 48 9) 11 false (.rd (zs 49 (.ixa (.sl 1) (.t 47) (.t 48))) 12 false (.rd (zs 50 (.load1 false (.t 49))) 13 false (.rd (zs 51 (.ixa (.sl 1) (.t 37) (.t 38))) 14 false (.mv (zn (.store 1 (.t 51) (.t 46))) [0,1,5,6,7,8,9,10,11,12,13,14] (.rd (zs 52 (.ixa (.sl 1) (.t 39) (.t 41))) 16 false (.mv (zn (.store 1 (.t 52) (.t 50))) [0,1,2,3,4,5,6,7,8,9,10,11,12,13,14,15,16] .done .stop)) .stop)))))))))))))))))) y23a1)
def y23a3:LCode:=(.seq (.seq (.tree (.rd (zv 18 9) 0 false (.rd (zv 19 1) 1 false (.rd (zs 20 (.bin .gtr .sc (.t 18) (.t 19))) 2 false (.rd (zv 21 20) 3 false (.rd (zt 22 21 (.mv false (.t 3))) 4 false (.rd (zt 23 21 (.mv false (.t 0))) 5 false (.rd (zt 24 21 (.mv false (.t 9))) 6 false (.rd (zt 25 21 (.ixa (.sl 1) (.t 23) (.t 24))) 7 false (.rd (zt 26 21 (.load1 false (.t 25))) 8 false (.rd (zt 27 21 (.mv false (.t 0))) 9 false (.rd (zt 28 21 (.mv false (.t 9))) 10 false (.rd (zt 29 21 (.bin .sub .sc (.t 28) (zi 1))) 11 false (.rd (zt 30 21 (.ixa (.sl 1) (.t 27) (.t 29))) 12 false (.rd (zt 31 21 (.load1 false (.t 30))) 13 false (.mv (zt 32 21 (.call (.t 22) [(.t 26),(.t 31)])) [0,1,2,3,4,5,6,7,8,9,10,11,12,13] (.rd (zt 33 21 (.bin .lss .sc (.t 32) (zi 0))) 15 false (.rd (zs 34 (.pick (.t 21) (.t 33) zF)) 16 false .done)) .stop)))))))))))))))) (.cond (.t 34) .skip (.exit 2))) y23a2)
def y23a4:LCode:=(.block 2 (.loop (zm false [0,4,4,2,43]) y23a3))
def y23a5:LCode:=(.sq [(zv 15 8),(zs 16 (.bin .add .sc (.t 15) (zi 1))),(zs 8 (.mv true (.t 16)))])
def y23a6:LCode:=(.seq (.block 1 (.seq (.sq [(zv 17 8),(zs 9 (.mv true (.t 17)))]) y23a4)) y23a5)
def y23a7:LCode:=(.seq (.seq (.sq [(zv 12 8),(zv 13 2),(zs 14 (.bin .lss .sc (.t 12) (.t 13)))]) (.cond (.t 14) .skip (.exit 0))) y23a6)
def y23a8:LCode:=(.block 0 (.loop (zm false [0,4,4,1,44]) y23a7))
def Uzm:=PLift.up (zc (zc (zc (@unfC _ _ (y23a1.eq_1)) (@unfC _ _ (y23a2.eq_1))) (zc (@unfC _ _ (y23a3.eq_1)) (@unfC _ _ (y23a4.eq_1)))) (zc (zc (@unfC _ _ (y23a5.eq_1)) (@unfC _ _ (y23a6.eq_1))) (zc (@unfC _ _ (y23a7.eq_1)) (@unfC _ _ (y23a8.eq_1)))))
def Czw:LFn:=⟨53,[],(.seq (.sq [(zv 10 1),(zs 11 (.bin .add .sc (.t 10) (zi 1))),(zs 8 (.mv true (.t 11)))]) y23a8)⟩
def y23b1:LCode:=(.sq [(zv 41 11),(zs 42 (.bin .add .sc (.t 41) (zi 1))),(zs 11 (.mv true (.t 42)))])
def y23b2:LCode:=(.seq (.tree (.rd (zv 59 0) 0 false (.rd (zv 60 3) 1 false (.rd (zv 61 10) 2 false (.rd (zs 62 (.bin .add .sc (.t 60) (.t 61))) 3 false (.rd (zv 63 0) 4 true (.rd (zv 64 3) 5 true (.rd (zv 65 11) 6 true (.rd (zs 66 (.bin .add .sc (.t 64) (.t 65))) 7 true (.rd (zv 67 0) 8 false (.rd (zv 68 3) 9 false (.rd (zv 69 11) 10 false (.rd (zs 70 (.bin .add .sc (.t 68) (.t 69))) 11 false (.rd (zs 71 (.ixa (.sl 1) (.t 67) (.t 70))) 12 false (.rd (zs 72 (.load1 false (.t 71))) 13 false (.rd (zv 73 0) 14 false (.rd (zv 74 3) 15 false (.rd (zv 75 10) 16 false (.rd (zs 76 (.bin .add .sc (.t 74) (.t 75))) 17 false (.rd (zs 77 (.ixa (.sl 1) (.t 73) (.t 76))) 18 false (.rd (zs 78 (.load1 false (.t 77))) 19 false (.rd (zs 79 (.ixa (.sl 1) (.t 59) (.t 62))) 20 false (.mv (zn (.store 1 (.t 79) (.t 72))) [0,1,2,3,8,9,10,11,12,13,14,15,16,17,18,19,20] (.rd (zs 80 (.ixa (.sl 1) (.t 63) (.t 66))) 22 false (.mv (zn (.store 1 (.t 80) (.t 78))) [0,1,2,3,4,5,6,7,8,9,10,11,12,13,14,15,16,17,18,19,20,21,22] .done .stop)) .stop))))))))))))))))))))))) (.sq [(zv 81 11),(zs 10 (.mv true (.t 81)))]))
def y23b3:LCode:=(.seq (.seq (.tree (.rd (zv 43 4) 0 false (.rd (zv 44 0) 1 false (.rd (zv 45 3) 2 false (.rd (zv 46 10) 3 false (.rd (zs 47 (.bin .add .sc (.t 45) (.t 46))) 4 false (.rd (zs 48 (.ixa (.sl 1) (.t 44) (.t 47))) 5 false (.rd (zs 49 (.load1 false (.t 48))) 6 false (.rd (zv 50 0) 7 false (.rd (zv 51 3) 8 false (.rd (zv 52 11) 9 false (.rd (zs 53 (.bin .add .sc (.t 51) (.t 52))) 10 false (.rd (zs 54 (.ixa (.sl 1) (.t 50) (.t 53))) 11 false (.rd (zs 55 (.load1 false (.t 54))) 12 false (.mv (zs 56 (.call (.t 43) [(.t 49),(.t 55)])) [0,1,2,3,4,5,6,7,8,9,10,11,12] (.rd (zs 57 (.bin .lss .sc (.t 56) (zi 0))) 14 false (.rd (zs 58 (.un .not (.t 57))) 15 false .done)) .stop))))))))))))))) (.cond (.t 58) .ret .skip)) y23b2)
def y23b4:LCode:=(.seq (.seq (.tree (.rd (zv 19 11) 0 false (.rd (zs 20 (.bin .add .sc (.t 19) (zi 1))) 1 false (.rd (zv 21 2) 2 false (.rd (zs 22 (.bin .lss .sc (.t 20) (.t 21))) 3 false (.rd (zv 23 22) 4 false (.rd (zt 24 23 (.mv false (.t 4))) 5 false (.rd (zt 25 23 (.mv false (.t 0))) 6 false (.rd (zt 26 23 (.mv false (.t 3))) 7 false (.rd (zt 27 23 (.mv false (.t 11))) 8 false (.rd (zt 28 23 (.bin .add .sc (.t 26) (.t 27))) 9 false (.rd (zt 29 23 (.ixa (.sl 1) (.t 25) (.t 28))) 10 false (.rd (zt 30 23 (.load1 false (.t 29))) 11 false (.rd (zt 31 23 (.mv false (.t 0))) 12 false (.rd (zt 32 23 (.mv false (.t 3))) 13 false (.rd (zt 33 23 (.mv false (.t 11))) 14 false (.rd (zt 34 23 (.bin .add .sc (.t 32) (.t 33))) 15 false (.rd (zt 35 23 (.bin .add .sc (.t 34) (zi 1))) 16 false (.rd (zt 36 23 (.ixa (.sl 1) (.t 31) (.t 35))) 17 false (.rd (zt 37 23 (.load1 false (.t 36))) 18 false (.mv (zt 38 23 (.call (.t 24) [(.t 30),(.t 37)])) [0,1,2,3,4,5,6,7,8,9,10,11,12,13,14,15,16,17,18] (.rd (zt 39 23 (.bin .lss .sc (.t 38) (zi 0))) 20 false (.rd (zs 40 (.pick (.t 23) (.t 39) zF)) 21 false .done)) .stop))))))))))))))))))))) (.cond (.t 40) y23b1 .skip)) y23b3)
def y23b5:LCode:=(.seq (.seq (.sq [(zv 16 11),(zv 17 2),(zs 18 (.bin .geq .sc (.t 16) (.t 17)))]) (.cond (.t 18) (.exit 0) .skip)) y23b4)
def y23b6:LCode:=(.block 1 (.seq (.sq [(zv 13 10),(zs 14 (.bin .mul .sc (zi 2) (.t 13))),(zs 15 (.bin .add .sc (.t 14) (zi 1))),(zs 11 (.mv true (.t 15)))]) y23b5))
def y23b7:LCode:=(.block 0 (.loop (zm false [0,1,1,3,5,1,71]) y23b6))
def Uzi:=PLift.up (zc (zc (@unfC _ _ (y23b1.eq_1)) (zc (@unfC _ _ (y23b2.eq_1)) (@unfC _ _ (y23b3.eq_1)))) (zc (zc (@unfC _ _ (y23b4.eq_1)) (@unfC _ _ (y23b5.eq_1))) (zc (@unfC _ _ (y23b6.eq_1)) (@unfC _ _ (y23b7.eq_1)))))
def Cz1v:LFn:=⟨82,[],(.seq (.sq [(zv 12 1),(zs 10 (.mv true (.t 12)))]) y23b7)⟩
def y23c1 (c:Nat→FuncId):LCode:=(.sq [(zv 22 11),(zs 23 (.bin .sub .sc (.t 22) (zi 1))),(zs 11 (.mv true (.t 23)))])
def y23c2 (c:Nat→FuncId):LCode:=(.seq (.block 1 (.sq [(zv 24 0),(zv 25 11),(zv 26 10),(zv 27 8),(zv 28 3),(zs 29 (.call (.f (c 0)) [(.t 24),(.t 25),(.t 26),(.t 27),(.t 28)]))])) (y23c1 c))
def y23c3 (c:Nat→FuncId):LCode:=(.seq (.seq (.sq [(zv 20 11),(zs 21 (.bin .geq .sc (.t 20) (zi 0)))]) (.cond (.t 21) .skip (.exit 0))) (y23c2 c))
def y23c4 (c:Nat→FuncId):LCode:=(.block 0 (.loop (zm false [0,1,2,1,4,4,48]) (y23c3 c)))
def y23c5 (c:Nat→FuncId):LCode:=(.sq [(zv 54 0),(zv 55 9),(zv 56 12),(zv 57 8),(zv 58 3),(zs 59 (.call (.f (c 0)) [(.t 54),(.t 55),(.t 56),(.t 57),(.t 58)]))])
def y23c6 (c:Nat→FuncId):LCode:=(.sq [(zv 34 12),(zs 35 (.bin .sub .sc (.t 34) (zi 1))),(zs 12 (.mv true (.t 35)))])
def y23c7 (c:Nat→FuncId):LCode:=(.seq (.block 3 (.seq (.tree (.rd (zv 36 0) 0 false (.rd (zv 37 8) 1 false (.rd (zv 38 0) 2 true (.rd (zv 39 8) 3 true (.rd (zv 40 12) 4 true (.rd (zs 41 (.bin .add .sc (.t 39) (.t 40))) 5 true (.rd (zv 42 0) 6 false (.rd (zv 43 8) 7 false (.rd (zv 44 12) 8 false (.rd (zs 45 (.bin .add .sc (.t 43) (.t 44))) 9 false (.rd (zs 46 (.ixa (.sl 1) (.t 42) (.t 45))) 10 false (.rd (zs 47 (.load1 false (.t 46))) 11 false (.rd (zv 48 0) 12 false (.rd (zv 49 8) 13 false (.rd (zs 50 (.ixa (.sl 1) (.t 48) (.t 49))) 14 false (.rd (zs 51 (.load1 false (.t 50))) 15 false (.rd (zs 52 (.ixa (.sl 1) (.t 36) (.t 37))) 16 false (.mv (zn (.store 1 (.t 52) (.t 47))) [0,1,6,7,8,9,10,11,12,13,14,15,16] (.rd (zs 53 (.ixa (.sl 1) (.t 38) (.t 41))) 18 false (.mv (zn (.store 1 (.t 53) (.t 51))) [0,1,2,3,4,5,6,7,8,9,10,11,12,13,14,15,16,17,18] .done .stop)) .stop))))))))))))))))))) (y23c5 c))) (y23c6 c))
def y23c8 (c:Nat→FuncId):LCode:=(.seq (.seq (.sq [(zv 32 12),(zs 33 (.bin .geq .sc (.t 32) (zi 0)))]) (.cond (.t 33) .skip (.exit 2))) (y23c7 c))
def y23c9 (c:Nat→FuncId):LCode:=(.block 2 (.loop (zm false [0,1,2,1,4,2,2,1,47]) (y23c8 c)))
def y23c10 (c:Nat→FuncId):LCode:=(.seq (.sq [(zv 30 10),(zs 31 (.bin .sub .sc (.t 30) (zi 1))),(zs 12 (.mv true (.t 31)))]) (y23c9 c))
def y23c11 (c:Nat→FuncId):LCode:=(.seq (.seq (.sq [(zv 17 10),(zs 18 (.bin .sub .sc (.t 17) (zi 1))),(zs 19 (.bin .quo .sc (.t 18) (zi 2))),(zs 11 (.mv true (.t 19)))]) (y23c4 c)) (y23c10 c))
def y23c12 (c:Nat→FuncId):LCode:=(.seq (.sq [(zv 14 2),(zv 15 1),(zs 16 (.bin .sub .sc (.t 14) (.t 15))),(zs 10 (.mv true (.t 16)))]) (y23c11 c))
def Uzy (c:Nat→FuncId):=PLift.up (zc (zc (zc (@unfC _ _ (y23c1.eq_1 c)) (zc (@unfC _ _ (y23c2.eq_1 c)) (@unfC _ _ (y23c3.eq_1 c)))) (zc (@unfC _ _ (y23c4.eq_1 c)) (zc (@unfC _ _ (y23c5.eq_1 c)) (@unfC _ _ (y23c6.eq_1 c))))) (zc (zc (@unfC _ _ (y23c7.eq_1 c)) (zc (@unfC _ _ (y23c8.eq_1 c)) (@unfC _ _ (y23c9.eq_1 c)))) (zc (@unfC _ _ (y23c10.eq_1 c)) (zc (@unfC _ _ (y23c11.eq_1 c)) (@unfC _ _ (y23c12.eq_1 c))))))
def Cz1w (c:Nat→FuncId):LFn:=⟨60,[],(.seq (.sq [(zv 13 1),(zs 8 (.mv true (.t 13)))]) (.seq (.sq [(zs 9 (.mv true (zi 0)))]) (y23c12 c)))⟩
def y23d1 (c:Nat→FuncId):LCode:=(.sq [(zv 46 12),(zv 47 8),(zs 48 (.bin .sub .sc (.t 46) (.t 47))),(zs 12 (.mv true (.t 48)))])
def y23d2 (c:Nat→FuncId):LCode:=(.tree (.rd (zv 49 0) 0 false (.rd (zv 50 11) 1 false (.rd (zv 51 0) 2 true (.rd (zv 52 1) 3 true (.rd (zv 53 12) 4 true (.rd (zs 54 (.bin .add .sc (.t 52) (.t 53))) 5 true (.rd (zv 55 0) 6 false (.rd (zv 56 1) 7 false (.rd (zv 57 12) 8 false (.rd (zs 58 (.bin .add .sc (.t 56) (.t 57))) 9 false (.rd (zs 59 (.ixa (.sl 1) (.t 55) (.t 58))) 10 false (.rd (zs 60 (.load1 false (.t 59))) 11 false (.rd (zv 61 0) 12 false (.rd (zv 62 11) 13 false (.rd (zs 63 (.ixa (.sl 1) (.t 61) (.t 62))) 14 false (.rd (zs 64 (.load1 false (.t 63))) 15 false (.rd (zs 65 (.ixa (.sl 1) (.t 49) (.t 50))) 16 false (.mv (zn (.store 1 (.t 65) (.t 60))) [0,1,6,7,8,9,10,11,12,13,14,15,16] (.rd (zs 66 (.ixa (.sl 1) (.t 51) (.t 54))) 18 false (.mv (zn (.store 1 (.t 66) (.t 64))) [0,1,2,3,4,5,6,7,8,9,10,11,12,13,14,15,16,17,18] .done .stop)) .stop)))))))))))))))))))
def y23d3 (c:Nat→FuncId):LCode:=(.seq (.seq (.sq [(zv 43 12),(zv 44 8),(zs 45 (.bin .geq .sc (.t 43) (.t 44)))]) (.cond (.t 45) (y23d1 c) .skip)) (y23d2 c))
def y23d4 (c:Nat→FuncId):LCode:=(.sq [(zv 36 11),(zs 37 (.bin .add .sc (.t 36) (zi 1))),(zs 11 (.mv true (.t 37)))])
def y23d5 (c:Nat→FuncId):LCode:=(.seq (.block 1 (.seq (.sq [(zs 38 (.call (.f (c 1)) [(.t 9)])),(zv 39 10),(zs 40 (.bin .sub .sc (.t 39) (.c (.int .u64 1)))),(zs 41 (.bin .and .sc (.t 38) (.t 40))),(zs 42 (.conv (.int .i64) (.t 41))),(zs 12 (.mv true (.t 42)))]) (y23d3 c))) (y23d4 c))
def y23d6 (c:Nat→FuncId):LCode:=(.seq (.seq (.sq [(zv 28 11),(zv 29 1),(zv 30 8),(zs 31 (.bin .quo .sc (.t 30) (zi 4))),(zs 32 (.bin .mul .sc (.t 31) (zi 2))),(zs 33 (.bin .add .sc (.t 29) (.t 32))),(zs 34 (.bin .add .sc (.t 33) (zi 1))),(zs 35 (.bin .leq .sc (.t 28) (.t 34)))]) (.cond (.t 35) .skip (.exit 0))) (y23d5 c))
def y23d7 (c:Nat→FuncId):LCode:=(.block 0 (.loop (zm false [0,2,6,4,55]) (y23d6 c)))
def y23d8 (c:Nat→FuncId):LCode:=(.seq (.sq [(zv 22 1),(zv 23 8),(zs 24 (.bin .quo .sc (.t 23) (zi 4))),(zs 25 (.bin .mul .sc (.t 24) (zi 2))),(zs 26 (.bin .add .sc (.t 22) (.t 25))),(zs 27 (.bin .sub .sc (.t 26) (zi 1))),(zs 11 (.mv true (.t 27)))]) (y23d7 c))
def y23d9 (c:Nat→FuncId):LCode:=(.seq (.sq [(zv 20 8),(zs 21 (.call (.f (c 0)) [(.t 20)])),(zs 10 (.mv true (.t 21)))]) (y23d8 c))
def y23d10 (c:Nat→FuncId):LCode:=(.seq (.sq [(zv 18 8),(zs 19 (.conv (.int .u64) (.t 18))),(zs 9 (.alloc false [(.s (.int .u64 0))])),(zn (.store 1 (.t 9) (.t 19)))]) (y23d9 c))
def y23d11 (c:Nat→FuncId):LCode:=(.seq (.sq [(zv 16 8),(zs 17 (.bin .geq .sc (.t 16) (zi 8)))]) (.cond (.t 17) (y23d10 c) .skip))
def Uzq (c:Nat→FuncId):=PLift.up (zc (zc (zc (@unfC _ _ (y23d1.eq_1 c)) (@unfC _ _ (y23d2.eq_1 c))) (zc (@unfC _ _ (y23d3.eq_1 c)) (zc (@unfC _ _ (y23d4.eq_1 c)) (@unfC _ _ (y23d5.eq_1 c))))) (zc (zc (@unfC _ _ (y23d6.eq_1 c)) (zc (@unfC _ _ (y23d7.eq_1 c)) (@unfC _ _ (y23d8.eq_1 c)))) (zc (@unfC _ _ (y23d9.eq_1 c)) (zc (@unfC _ _ (y23d10.eq_1 c)) (@unfC _ _ (y23d11.eq_1 c))))))
def Cz17 (c:Nat→FuncId):LFn:=⟨67,[],(.seq (.sq [(zv 13 2),(zv 14 1),(zs 15 (.bin .sub .sc (.t 13) (.t 14))),(zs 8 (.mv true (.t 15)))]) (y23d11 c))⟩
def y23e1:LCode:=(.seq (.sq [(zv 28 2),(zv 29 1),(zs 10 (.mv true (.t 28))),(zs 11 (.mv true (.t 29)))]) .ret)
def y23e2:LCode:=(.seq (.sq [(zv 23 3),(zs 24 (.nilc (.t 23))),(zs 25 (.load1 false (.t 24))),(zs 26 (.bin .add .sc (.t 25) (zi 1))),(zs 27 (.nilc (.t 23))),(zn (.store 1 (.t 27) (.t 26)))]) y23e1)
def y23e3:LCode:=(.seq (.sq [(zv 30 1),(zv 31 2),(zs 10 (.mv true (.t 30))),(zs 11 (.mv true (.t 31)))]) .ret)
def y23e4:LCode:=(.seq (.seq (.tree (.rd (zv 12 4) 0 false (.rd (zv 13 0) 1 false (.rd (zv 14 2) 2 false (.rd (zs 15 (.ixa (.sl 1) (.t 13) (.t 14))) 3 false (.rd (zs 16 (.load1 false (.t 15))) 4 false (.rd (zv 17 0) 5 false (.rd (zv 18 1) 6 false (.rd (zs 19 (.ixa (.sl 1) (.t 17) (.t 18))) 7 false (.rd (zs 20 (.load1 false (.t 19))) 8 false (.mv (zs 21 (.call (.t 12) [(.t 16),(.t 20)])) [0,1,2,3,4,5,6,7,8] (.rd (zs 22 (.bin .lss .sc (.t 21) (zi 0))) 10 false .done) .stop))))))))))) (.cond (.t 22) y23e2 .skip)) y23e3)
def Uz26:=PLift.up (zc (zc (@unfC _ _ (y23e1.eq_1)) (@unfC _ _ (y23e2.eq_1))) (zc (@unfC _ _ (y23e3.eq_1)) (@unfC _ _ (y23e4.eq_1))))
def Cz27:LFn:=⟨32,[.t 10,.t 11],(.seq (.sq [(zs 10 (.mv true (zi 0))),(zs 11 (.mv true (zi 0)))]) y23e4)⟩
def y23f1 (c:Nat→FuncId):LCode:=(.seq (.sq [(zs 32 (.mv true (.t 0))),(zv 33 1),(zv 34 2),(zv 35 4),(zv 36 5),(zs 37 (.call (.f (c 0)) [(.t 32),(.t 33),(.t 34),(.t 35),(.t 36)])),(zv 31 37),(zs 38 (.ext (.t 31) 0)),(zs 39 (.ext (.t 31) 1)),(zs 1 (.mv true (.t 38))),(zs 2 (.mv true (.t 39)))]) (.seq (.sq [(zv 40 2),(zs 12 (.mv true (.t 40)))]) .ret))
def y23f2 (c:Nat→FuncId):LCode:=(.seq (.sq [(zv 23 0),(zv 24 2),(zv 25 3),(zv 26 4),(zv 27 5),(zs 28 (.call (.f (c 0)) [(.t 23),(.t 24),(.t 25),(.t 26),(.t 27)])),(zv 22 28),(zs 29 (.ext (.t 22) 0)),(zs 30 (.ext (.t 22) 1)),(zs 2 (.mv true (.t 29))),(zs 3 (.mv true (.t 30)))]) (y23f1 c))
def y23f3 (c:Nat→FuncId):LCode:=(.seq (.sq [(zv 14 0),(zv 15 1),(zv 16 2),(zv 17 4),(zv 18 5),(zs 19 (.call (.f (c 0)) [(.t 14),(.t 15),(.t 16),(.t 17),(.t 18)])),(zv 13 19),(zs 20 (.ext (.t 13) 0)),(zs 21 (.ext (.t 13) 1)),(zs 1 (.mv true (.t 20))),(zs 2 (.mv true (.t 21)))]) (y23f2 c))
def Uz1n (c:Nat→FuncId):=PLift.up (zc (@unfC _ _ (y23f1.eq_1 c)) (zc (@unfC _ _ (y23f2.eq_1 c)) (@unfC _ _ (y23f3.eq_1 c))))
def Cz28 (c:Nat→FuncId):LFn:=⟨41,[.t 12],(.seq (.sq [(zs 12 (.mv true (zi 0)))]) (y23f3 c))⟩
def y23g1 (c:Nat→FuncId):LCode:=(.seq (.sq [(zs 9 (.mv true (.t 0))),(zv 10 1),(zs 11 (.bin .sub .sc (.t 10) (zi 1))),(zv 12 1),(zv 13 1),(zs 14 (.bin .add .sc (.t 13) (zi 1))),(zv 15 2),(zv 16 3),(zs 17 (.call (.f (c 0)) [(.t 9),(.t 11),(.t 12),(.t 14),(.t 15),(.t 16)])),(zs 8 (.mv true (.t 17)))]) .ret)
def Uz20 (c:Nat→FuncId):=PLift.up (@unfC _ _ (y23g1.eq_1 c))
def Cz1g (c:Nat→FuncId):LFn:=⟨18,[.t 8],(.seq (.sq [(zs 8 (.mv true (zi 0)))]) (y23g1 c))⟩
def y23h1 (c:Nat→FuncId):LCode:=(.sq [(zv 45 0),(zv 46 14),(zv 47 3),(zs 48 (.call (.f (c 0)) [(.t 45),(.t 46),(.t 11),(.t 47)])),(zs 14 (.mv true (.t 48)))])
def y23h2 (c:Nat→FuncId):LCode:=(.seq (.sq [(zv 41 0),(zv 42 13),(zv 43 3),(zs 44 (.call (.f (c 0)) [(.t 41),(.t 42),(.t 11),(.t 43)])),(zs 13 (.mv true (.t 44)))]) (y23h1 c))
def y23h3 (c:Nat→FuncId):LCode:=(.seq (.sq [(zv 37 0),(zv 38 12),(zv 39 3),(zs 40 (.call (.f (c 0)) [(.t 37),(.t 38),(.t 11),(.t 39)])),(zs 12 (.mv true (.t 40)))]) (y23h2 c))
def y23h4 (c:Nat→FuncId):LCode:=(.sq [(zs 49 (.mv true (.t 0))),(zv 50 12),(zv 51 13),(zv 52 14),(zv 53 3),(zs 54 (.call (.f (c 1)) [(.t 49),(.t 50),(.t 51),(.t 52),(.t 11),(.t 53)])),(zs 13 (.mv true (.t 54)))])
def y23h5 (c:Nat→FuncId):LCode:=(.seq (.seq (.sq [(zv 35 10),(zs 36 (.bin .geq .sc (.t 35) (zi 50)))]) (.cond (.t 36) (y23h3 c) .skip)) (y23h4 c))
def y23h6 (c:Nat→FuncId):LCode:=(.seq (.sq [(zv 59 13),(zs 8 (.mv true (.t 59))),(zs 9 (.mv true (zi 1)))]) .ret)
def y23h7 (c:Nat→FuncId):LCode:=(.seq (.sq [(zv 62 13),(zs 8 (.mv true (.t 62))),(zs 9 (.mv true (zi 2)))]) .ret)
def y23h8 (c:Nat→FuncId):LCode:=(.seq (.sq [(zv 56 13),(zs 8 (.mv true (.t 56))),(zs 9 (.mv true (zi 0)))]) .ret)
def y23h9 (c:Nat→FuncId):LCode:=(.seq (.sq [(zs 61 (.bin .eql .sc (.t 55) (zi 12))),(zs 60 (.mv true (.t 61)))]) (.cond (.t 60) (y23h7 c) (y23h8 c)))
def y23h10 (c:Nat→FuncId):LCode:=(.block 0 (.seq (.sq [(zs 58 (.bin .eql .sc (.t 55) (zi 0))),(zs 57 (.mv true (.t 58)))]) (.cond (.t 57) (y23h6 c) (y23h9 c))))
def y23h11 (c:Nat→FuncId):LCode:=(.seq (.seq (.sq [(zv 33 10),(zs 34 (.bin .geq .sc (.t 33) (zi 8)))]) (.cond (.t 34) (y23h5 c) .skip)) (.seq (.sq [(zs 55 (.load1 false (.t 11)))]) (y23h10 c)))
def y23h12 (c:Nat→FuncId):LCode:=(.seq (.sq [(zv 28 1),(zv 29 10),(zs 30 (.bin .quo .sc (.t 29) (zi 4))),(zs 31 (.bin .mul .sc (.t 30) (zi 3))),(zs 32 (.bin .add .sc (.t 28) (.t 31))),(zs 14 (.mv true (.t 32)))]) (y23h11 c))
def y23h13 (c:Nat→FuncId):LCode:=(.seq (.sq [(zv 23 1),(zv 24 10),(zs 25 (.bin .quo .sc (.t 24) (zi 4))),(zs 26 (.bin .mul .sc (.t 25) (zi 2))),(zs 27 (.bin .add .sc (.t 23) (.t 26))),(zs 13 (.mv true (.t 27)))]) (y23h12 c))
def y23h14 (c:Nat→FuncId):LCode:=(.seq (.sq [(zv 18 1),(zv 19 10),(zs 20 (.bin .quo .sc (.t 19) (zi 4))),(zs 21 (.bin .mul .sc (.t 20) (zi 1))),(zs 22 (.bin .add .sc (.t 18) (.t 21))),(zs 12 (.mv true (.t 22)))]) (y23h13 c))
def y23h15 (c:Nat→FuncId):LCode:=(.seq (.sq [(zv 15 2),(zv 16 1),(zs 17 (.bin .sub .sc (.t 15) (.t 16))),(zs 10 (.mv true (.t 17)))]) (.seq (.sq [(zs 11 (.alloc false [(.s (.int .i64 0))]))]) (y23h14 c)))
def Uzf (c:Nat→FuncId):=PLift.up (zc (zc (zc (@unfC _ _ (y23h1.eq_1 c)) (zc (@unfC _ _ (y23h2.eq_1 c)) (@unfC _ _ (y23h3.eq_1 c)))) (zc (zc (@unfC _ _ (y23h4.eq_1 c)) (@unfC _ _ (y23h5.eq_1 c))) (zc (@unfC _ _ (y23h6.eq_1 c)) (@unfC _ _ (y23h7.eq_1 c))))) (zc (zc (zc (@unfC _ _ (y23h8.eq_1 c)) (@unfC _ _ (y23h9.eq_1 c))) (zc (@unfC _ _ (y23h10.eq_1 c)) (@unfC _ _ (y23h11.eq_1 c)))) (zc (zc (@unfC _ _ (y23h12.eq_1 c)) (@unfC _ _ (y23h13.eq_1 c))) (zc (@unfC _ _ (y23h14.eq_1 c)) (@unfC _ _ (y23h15.eq_1 c))))))
def Cz13 (c:Nat→FuncId):LFn:=⟨63,[.t 8,.t 9],(.seq (.sq [(zs 8 (.mv true (zi 0))),(zs 9 (.mv true (zi 0)))]) (y23h15 c))⟩
def y23i1:LCode:=(.sq [(zv 32 9),(zs 33 (.bin .sub .sc (.t 32) (zi 1))),(zs 9 (.mv true (.t 33)))])
def y23i2:LCode:=(.seq (.sq [(zv 30 8),(zs 31 (.bin .add .sc (.t 30) (zi 1))),(zs 8 (.mv true (.t 31)))]) y23i1)
def y23i3:LCode:=(.block 1 (.seq (.tree (.rd (zv 16 0) 0 false (.rd (zv 17 8) 1 false (.rd (zv 18 0) 2 true (.rd (zv 19 9) 3 true (.rd (zv 20 0) 4 false (.rd (zv 21 9) 5 false (.rd (zs 22 (.ixa (.sl 1) (.t 20) (.t 21))) 6 false (.rd (zs 23 (.load1 false (.t 22))) 7 false (.rd (zv 24 0) 8 false (.rd (zv 25 8) 9 false (.rd (zs 26 (.ixa (.sl 1) (.t 24) (.t 25))) 10 false (.rd (zs 27 (.load1 false (.t 26))) 11 false (.rd (zs 28 (.ixa (.sl 1) (.t 16) (.t 17))) 12 false (.mv (zn (.store 1 (.t 28) (.t 23))) [0,1,4,5,6,7,8,9,10,11,12] (.rd (zs 29 (.ixa (.sl 1) (.t 18) (.t 19))) 14 false (.mv (zn (.store 1 (.t 29) (.t 27))) [0,1,2,3,4,5,6,7,8,9,10,11,12,13,14] .done .stop)) .stop))))))))))))))) y23i2))
def y23i4:LCode:=(.seq (.seq (.sq [(zv 13 8),(zv 14 9),(zs 15 (.bin .lss .sc (.t 13) (.t 14)))]) (.cond (.t 15) .skip (.exit 0))) y23i3)
def y23i5:LCode:=(.block 0 (.loop (zm false [0,1,7,2,24]) y23i4))
def y23i6:LCode:=(.seq (.sq [(zv 11 2),(zs 12 (.bin .sub .sc (.t 11) (zi 1))),(zs 9 (.mv true (.t 12)))]) y23i5)
def Uz1k:=PLift.up (zc (zc (@unfC _ _ (y23i1.eq_1)) (zc (@unfC _ _ (y23i2.eq_1)) (@unfC _ _ (y23i3.eq_1)))) (zc (@unfC _ _ (y23i4.eq_1)) (zc (@unfC _ _ (y23i5.eq_1)) (@unfC _ _ (y23i6.eq_1)))))
def Cz1l:LFn:=⟨34,[],(.seq (.sq [(zv 10 1),(zs 8 (.mv true (.t 10)))]) y23i6)⟩
def y23j1:LCode:=(.block 3 (.sq [(zv 37 9),(zs 38 (.bin .add .sc (.t 37) (zi 1))),(zs 9 (.mv true (.t 38)))]))
def y23j2:LCode:=(.seq (.seq (.tree (.rd (zv 19 9) 0 false (.rd (zv 20 2) 1 false (.rd (zs 21 (.bin .lss .sc (.t 19) (.t 20))) 2 false (.rd (zv 22 21) 3 false (.rd (zt 23 22 (.mv false (.t 3))) 4 false (.rd (zt 24 22 (.mv false (.t 0))) 5 false (.rd (zt 25 22 (.mv false (.t 9))) 6 false (.rd (zt 26 22 (.ixa (.sl 1) (.t 24) (.t 25))) 7 false (.rd (zt 27 22 (.load1 false (.t 26))) 8 false (.rd (zt 28 22 (.mv false (.t 0))) 9 false (.rd (zt 29 22 (.mv false (.t 9))) 10 false (.rd (zt 30 22 (.bin .sub .sc (.t 29) (zi 1))) 11 false (.rd (zt 31 22 (.ixa (.sl 1) (.t 28) (.t 30))) 12 false (.rd (zt 32 22 (.load1 false (.t 31))) 13 false (.mv (zt 33 22 (.call (.t 23) [(.t 27),(.t 32)])) [0,1,2,3,4,5,6,7,8,9,10,11,12,13] (.rd (zt 34 22 (.bin .lss .sc (.t 33) (zi 0))) 15 false (.rd (zt 35 22 (.un .not (.t 34))) 16 false (.rd (zs 36 (.pick (.t 22) (.t 35) zF)) 17 false .done))) .stop)))))))))))))))) (.cond (.t 36) .skip (.exit 2))) y23j1)
def y23j3:LCode:=(.tree (.rd (zv 85 0) 0 false (.rd (zv 86 11) 1 false (.rd (zv 87 0) 2 true (.rd (zv 88 11) 3 true (.rd (zs 89 (.bin .sub .sc (.t 88) (zi 1))) 4 true (.rd (zv 90 0) 5 false (.rd (zv 91 11) 6 false (.rd (zs 92 (.bin .sub .sc (.t 91) (zi 1))) 7 false (.rd (zs 93 (.ixa (.sl 1) (.t 90) (.t 92))) 8 false (.rd (zs 94 (.load1 false (.t 93))) 9 false (.rd (zv 95 0) 10 false (.rd (zv 96 11) 11 false (.rd (zs 97 (.ixa (.sl 1) (.t 95) (.t 96))) 12 false (.rd (zs 98 (.load1 false (.t 97))) 13 false (.rd (zs 99 (.ixa (.sl 1) (.t 85) (.t 86))) 14 false (.mv (zn (.store 1 (.t 99) (.t 94))) [0,1,5,6,7,8,9,10,11,12,13,14] (.rd (zs 100 (.ixa (.sl 1) (.t 87) (.t 89))) 16 false (.mv (zn (.store 1 (.t 100) (.t 98))) [0,1,2,3,4,5,6,7,8,9,10,11,12,13,14,15,16] .done .stop)) .stop)))))))))))))))))
def y23j4:LCode:=(.sq [(zv 70 11),(zs 71 (.bin .sub .sc (.t 70) (zi 1))),(zs 11 (.mv true (.t 71)))])
def y23j5:LCode:=(.seq (.block 5 (.seq (.seq (.tree (.rd (zv 72 3) 0 false (.rd (zv 73 0) 1 false (.rd (zv 74 11) 2 false (.rd (zs 75 (.ixa (.sl 1) (.t 73) (.t 74))) 3 false (.rd (zs 76 (.load1 false (.t 75))) 4 false (.rd (zv 77 0) 5 false (.rd (zv 78 11) 6 false (.rd (zs 79 (.bin .sub .sc (.t 78) (zi 1))) 7 false (.rd (zs 80 (.ixa (.sl 1) (.t 77) (.t 79))) 8 false (.rd (zs 81 (.load1 false (.t 80))) 9 false (.mv (zs 82 (.call (.t 72) [(.t 76),(.t 81)])) [0,1,2,3,4,5,6,7,8,9] (.rd (zs 83 (.bin .lss .sc (.t 82) (zi 0))) 11 false (.rd (zs 84 (.un .not (.t 83))) 12 false .done)) .stop)))))))))))) (.cond (.t 84) (.exit 4) .skip)) y23j3)) y23j4)
def y23j6:LCode:=(.seq (.seq (.sq [(zv 68 11),(zs 69 (.bin .geq .sc (.t 68) (zi 1)))]) (.cond (.t 69) .skip (.exit 4))) y23j5)
def y23j7:LCode:=(.block 4 (.loop (zm false [0,4,5,3,129]) y23j6))
def y23j8:LCode:=(.seq (.sq [(zv 66 9),(zs 67 (.bin .sub .sc (.t 66) (zi 1))),(zs 11 (.mv true (.t 67)))]) y23j7)
def y23j9:LCode:=(.tree (.rd (zv 125 0) 0 false (.rd (zv 126 12) 1 false (.rd (zv 127 0) 2 true (.rd (zv 128 12) 3 true (.rd (zs 129 (.bin .sub .sc (.t 128) (zi 1))) 4 true (.rd (zv 130 0) 5 false (.rd (zv 131 12) 6 false (.rd (zs 132 (.bin .sub .sc (.t 131) (zi 1))) 7 false (.rd (zs 133 (.ixa (.sl 1) (.t 130) (.t 132))) 8 false (.rd (zs 134 (.load1 false (.t 133))) 9 false (.rd (zv 135 0) 10 false (.rd (zv 136 12) 11 false (.rd (zs 137 (.ixa (.sl 1) (.t 135) (.t 136))) 12 false (.rd (zs 138 (.load1 false (.t 137))) 13 false (.rd (zs 139 (.ixa (.sl 1) (.t 125) (.t 126))) 14 false (.mv (zn (.store 1 (.t 139) (.t 134))) [0,1,5,6,7,8,9,10,11,12,13,14] (.rd (zs 140 (.ixa (.sl 1) (.t 127) (.t 129))) 16 false (.mv (zn (.store 1 (.t 140) (.t 138))) [0,1,2,3,4,5,6,7,8,9,10,11,12,13,14,15,16] .done .stop)) .stop)))))))))))))))))
def y23j10:LCode:=(.sq [(zv 110 12),(zs 111 (.bin .add .sc (.t 110) (zi 1))),(zs 12 (.mv true (.t 111)))])
def y23j11:LCode:=(.seq (.block 7 (.seq (.seq (.tree (.rd (zv 112 3) 0 false (.rd (zv 113 0) 1 false (.rd (zv 114 12) 2 false (.rd (zs 115 (.ixa (.sl 1) (.t 113) (.t 114))) 3 false (.rd (zs 116 (.load1 false (.t 115))) 4 false (.rd (zv 117 0) 5 false (.rd (zv 118 12) 6 false (.rd (zs 119 (.bin .sub .sc (.t 118) (zi 1))) 7 false (.rd (zs 120 (.ixa (.sl 1) (.t 117) (.t 119))) 8 false (.rd (zs 121 (.load1 false (.t 120))) 9 false (.mv (zs 122 (.call (.t 112) [(.t 116),(.t 121)])) [0,1,2,3,4,5,6,7,8,9] (.rd (zs 123 (.bin .lss .sc (.t 122) (zi 0))) 11 false (.rd (zs 124 (.un .not (.t 123))) 12 false .done)) .stop)))))))))))) (.cond (.t 124) (.exit 6) .skip)) y23j9)) y23j10)
def y23j12:LCode:=(.seq (.seq (.sq [(zv 107 12),(zv 108 2),(zs 109 (.bin .lss .sc (.t 107) (.t 108)))]) (.cond (.t 109) .skip (.exit 6))) y23j11)
def y23j13:LCode:=(.block 6 (.loop (zm false [0,4,5,2,1,1,128]) y23j12))
def y23j14:LCode:=(.seq (.sq [(zv 105 9),(zs 106 (.bin .add .sc (.t 105) (zi 1))),(zs 12 (.mv true (.t 106)))]) y23j13)
def y23j15:LCode:=(.seq (.sq [(zv 101 2),(zv 102 9),(zs 103 (.bin .sub .sc (.t 101) (.t 102))),(zs 104 (.bin .geq .sc (.t 103) (zi 2)))]) (.cond (.t 104) y23j14 .skip))
def y23j16:LCode:=(.seq (.seq (.sq [(zv 62 9),(zv 63 1),(zs 64 (.bin .sub .sc (.t 62) (.t 63))),(zs 65 (.bin .geq .sc (.t 64) (zi 2)))]) (.cond (.t 65) y23j8 .skip)) y23j15)
def y23j17:LCode:=(.seq (.tree (.rd (zv 46 0) 0 false (.rd (zv 47 9) 1 false (.rd (zv 48 0) 2 true (.rd (zv 49 9) 3 true (.rd (zs 50 (.bin .sub .sc (.t 49) (zi 1))) 4 true (.rd (zv 51 0) 5 false (.rd (zv 52 9) 6 false (.rd (zs 53 (.bin .sub .sc (.t 52) (zi 1))) 7 false (.rd (zs 54 (.ixa (.sl 1) (.t 51) (.t 53))) 8 false (.rd (zs 55 (.load1 false (.t 54))) 9 false (.rd (zv 56 0) 10 false (.rd (zv 57 9) 11 false (.rd (zs 58 (.ixa (.sl 1) (.t 56) (.t 57))) 12 false (.rd (zs 59 (.load1 false (.t 58))) 13 false (.rd (zs 60 (.ixa (.sl 1) (.t 46) (.t 47))) 14 false (.mv (zn (.store 1 (.t 60) (.t 55))) [0,1,5,6,7,8,9,10,11,12,13,14] (.rd (zs 61 (.ixa (.sl 1) (.t 48) (.t 50))) 16 false (.mv (zn (.store 1 (.t 61) (.t 59))) [0,1,2,3,4,5,6,7,8,9,10,11,12,13,14,15,16] .done .stop)) .stop))))))))))))))))) y23j16)
def y23j18:LCode:=(.seq (.seq (.sq [(zv 42 2),(zv 43 1),(zs 44 (.bin .sub .sc (.t 42) (.t 43))),(zs 45 (.bin .lss .sc (.t 44) (zi 50)))]) (.cond (.t 45) (.seq (.sq [(zs 8 (.mv true zF))]) .ret) .skip)) y23j17)
def y23j19:LCode:=(.seq (.seq (.sq [(zv 39 9),(zv 40 2),(zs 41 (.bin .eql .sc (.t 39) (.t 40)))]) (.cond (.t 41) (.seq (.sq [(zs 8 (.mv true zT))]) .ret) .skip)) y23j18)
def y23j20:LCode:=(.sq [(zv 17 10),(zs 18 (.bin .add .sc (.t 17) (zi 1))),(zs 10 (.mv true (.t 18)))])
def y23j21:LCode:=(.seq (.block 1 (.seq (.block 2 (.loop (zm false [0,4,5,2,130]) y23j2)) y23j19)) y23j20)
def y23j22:LCode:=(.seq (.seq (.sq [(zv 15 10),(zs 16 (.bin .lss .sc (.t 15) (zi 5)))]) (.cond (.t 16) .skip (.exit 0))) y23j21)
def y23j23:LCode:=(.block 0 (.loop (zm false [0,4,5,2,130]) y23j22))
def y23j24:LCode:=(.seq (.seq (.sq [(zs 10 (.mv true (zi 0)))]) y23j23) (.seq (.sq [(zs 8 (.mv true zF))]) .ret))
def y23j25:LCode:=(.seq (.sq [(zv 13 1),(zs 14 (.bin .add .sc (.t 13) (zi 1))),(zs 9 (.mv true (.t 14)))]) y23j24)
def Uz4:=PLift.up (zc (zc (zc (zc (@unfC _ _ (y23j1.eq_1)) (zc (@unfC _ _ (y23j2.eq_1)) (@unfC _ _ (y23j3.eq_1)))) (zc (@unfC _ _ (y23j4.eq_1)) (zc (@unfC _ _ (y23j5.eq_1)) (@unfC _ _ (y23j6.eq_1))))) (zc (zc (@unfC _ _ (y23j7.eq_1)) (zc (@unfC _ _ (y23j8.eq_1)) (@unfC _ _ (y23j9.eq_1)))) (zc (@unfC _ _ (y23j10.eq_1)) (zc (@unfC _ _ (y23j11.eq_1)) (@unfC _ _ (y23j12.eq_1)))))) (zc (zc (zc (@unfC _ _ (y23j13.eq_1)) (zc (@unfC _ _ (y23j14.eq_1)) (@unfC _ _ (y23j15.eq_1)))) (zc (@unfC _ _ (y23j16.eq_1)) (zc (@unfC _ _ (y23j17.eq_1)) (@unfC _ _ (y23j18.eq_1))))) (zc (zc (@unfC _ _ (y23j19.eq_1)) (zc (@unfC _ _ (y23j20.eq_1)) (@unfC _ _ (y23j21.eq_1)))) (zc (zc (@unfC _ _ (y23j22.eq_1)) (@unfC _ _ (y23j23.eq_1))) (zc (@unfC _ _ (y23j24.eq_1)) (@unfC _ _ (y23j25.eq_1)))))))
def Cz1:LFn:=⟨141,[.t 8],(.seq (.sq [(zs 8 (.mv true zF))]) y23j25)⟩
def y23k1:LCode:=(.block 3 (.sq [(zv 48 11),(zs 49 (.bin .add .sc (.t 48) (zi 1))),(zs 11 (.mv true (.t 49)))]))
def y23k2:LCode:=(.seq (.seq (.tree (.rd (zv 31 11) 0 false (.rd (zv 32 12) 1 false (.rd (zs 33 (.bin .leq .sc (.t 31) (.t 32))) 2 false (.rd (zv 34 33) 3 false (.rd (zt 35 34 (.mv false (.t 4))) 4 false (.rd (zt 36 34 (.mv false (.t 0))) 5 false (.rd (zt 37 34 (.mv false (.t 1))) 6 false (.rd (zt 38 34 (.ixa (.sl 1) (.t 36) (.t 37))) 7 false (.rd (zt 39 34 (.load1 false (.t 38))) 8 false (.rd (zt 40 34 (.mv false (.t 0))) 9 false (.rd (zt 41 34 (.mv false (.t 11))) 10 false (.rd (zt 42 34 (.ixa (.sl 1) (.t 40) (.t 41))) 11 false (.rd (zt 43 34 (.load1 false (.t 42))) 12 false (.mv (zt 44 34 (.call (.t 35) [(.t 39),(.t 43)])) [0,1,2,3,4,5,6,7,8,9,10,11,12] (.rd (zt 45 34 (.bin .lss .sc (.t 44) (zi 0))) 14 false (.rd (zt 46 34 (.un .not (.t 45))) 15 false (.rd (zs 47 (.pick (.t 34) (.t 46) zF)) 16 false .done))) .stop))))))))))))))) (.cond (.t 47) .skip (.exit 2))) y23k1)
def y23k3:LCode:=(.block 5 (.sq [(zv 66 12),(zs 67 (.bin .sub .sc (.t 66) (zi 1))),(zs 12 (.mv true (.t 67)))]))
def y23k4:LCode:=(.seq (.seq (.tree (.rd (zv 50 11) 0 false (.rd (zv 51 12) 1 false (.rd (zs 52 (.bin .leq .sc (.t 50) (.t 51))) 2 false (.rd (zv 53 52) 3 false (.rd (zt 54 53 (.mv false (.t 4))) 4 false (.rd (zt 55 53 (.mv false (.t 0))) 5 false (.rd (zt 56 53 (.mv false (.t 1))) 6 false (.rd (zt 57 53 (.ixa (.sl 1) (.t 55) (.t 56))) 7 false (.rd (zt 58 53 (.load1 false (.t 57))) 8 false (.rd (zt 59 53 (.mv false (.t 0))) 9 false (.rd (zt 60 53 (.mv false (.t 12))) 10 false (.rd (zt 61 53 (.ixa (.sl 1) (.t 59) (.t 60))) 11 false (.rd (zt 62 53 (.load1 false (.t 61))) 12 false (.mv (zt 63 53 (.call (.t 54) [(.t 58),(.t 62)])) [0,1,2,3,4,5,6,7,8,9,10,11,12] (.rd (zt 64 53 (.bin .lss .sc (.t 63) (zi 0))) 14 false (.rd (zs 65 (.pick (.t 53) (.t 64) zF)) 15 false .done)) .stop))))))))))))))) (.cond (.t 65) .skip (.exit 4))) y23k3)
def y23k5:LCode:=(.sq [(zv 87 12),(zs 88 (.bin .sub .sc (.t 87) (zi 1))),(zs 12 (.mv true (.t 88)))])
def y23k6:LCode:=(.seq (.sq [(zv 85 11),(zs 86 (.bin .add .sc (.t 85) (zi 1))),(zs 11 (.mv true (.t 86)))]) y23k5)
def y23k7:LCode:=(.seq (.tree (.rd (zv 71 0) 0 false (.rd (zv 72 11) 1 false (.rd (zv 73 0) 2 true (.rd (zv 74 12) 3 true (.rd (zv 75 0) 4 false (.rd (zv 76 12) 5 false (.rd (zs 77 (.ixa (.sl 1) (.t 75) (.t 76))) 6 false (.rd (zs 78 (.load1 false (.t 77))) 7 false (.rd (zv 79 0) 8 false (.rd (zv 80 11) 9 false (.rd (zs 81 (.ixa (.sl 1) (.t 79) (.t 80))) 10 false (.rd (zs 82 (.load1 false (.t 81))) 11 false (.rd (zs 83 (.ixa (.sl 1) (.t 71) (.t 72))) 12 false (.mv (zn (.store 1 (.t 83) (.t 78))) [0,1,4,5,6,7,8,9,10,11,12] (.rd (zs 84 (.ixa (.sl 1) (.t 73) (.t 74))) 14 false (.mv (zn (.store 1 (.t 84) (.t 82))) [0,1,2,3,4,5,6,7,8,9,10,11,12,13,14] .done .stop)) .stop))))))))))))))) y23k6)
def y23k8:LCode:=(.seq (.seq (.sq [(zv 68 11),(zv 69 12),(zs 70 (.bin .gtr .sc (.t 68) (.t 69)))]) (.cond (.t 70) (.exit 0) .skip)) y23k7)
def y23k9:LCode:=(.seq (.block 4 (.loop (zm false [0,2,2,1,6,2,77]) y23k4)) y23k8)
def y23k10:LCode:=(.block 1 (.seq (.block 2 (.loop (zm false [0,2,2,1,6,2,77]) y23k2)) y23k9))
def y23k11:LCode:=(.seq (.block 0 (.loop (zm false [0,2,2,1,6,2,77]) y23k10)) (.seq (.sq [(zv 89 11),(zs 10 (.mv true (.t 89)))]) .ret))
def y23k12:LCode:=(.seq (.sq [(zv 27 1),(zs 28 (.bin .add .sc (.t 27) (zi 1))),(zv 29 2),(zs 30 (.bin .sub .sc (.t 29) (zi 1))),(zs 11 (.mv true (.t 28))),(zs 12 (.mv true (.t 30)))]) y23k11)
def y23k13:LCode:=(.seq (.tree (.rd (zv 13 0) 0 false (.rd (zv 14 1) 1 false (.rd (zv 15 0) 2 true (.rd (zv 16 3) 3 true (.rd (zv 17 0) 4 false (.rd (zv 18 3) 5 false (.rd (zs 19 (.ixa (.sl 1) (.t 17) (.t 18))) 6 false (.rd (zs 20 (.load1 false (.t 19))) 7 false (.rd (zv 21 0) 8 false (.rd (zv 22 1) 9 false (.rd (zs 23 (.ixa (.sl 1) (.t 21) (.t 22))) 10 false (.rd (zs 24 (.load1 false (.t 23))) 11 false (.rd (zs 25 (.ixa (.sl 1) (.t 13) (.t 14))) 12 false (.mv (zn (.store 1 (.t 25) (.t 20))) [0,1,4,5,6,7,8,9,10,11,12] (.rd (zs 26 (.ixa (.sl 1) (.t 15) (.t 16))) 14 false (.mv (zn (.store 1 (.t 26) (.t 24))) [0,1,2,3,4,5,6,7,8,9,10,11,12,13,14] .done .stop)) .stop))))))))))))))) y23k12)
def Uzd:=PLift.up (zc (zc (zc (@unfC _ _ (y23k1.eq_1)) (zc (@unfC _ _ (y23k2.eq_1)) (@unfC _ _ (y23k3.eq_1)))) (zc (@unfC _ _ (y23k4.eq_1)) (zc (@unfC _ _ (y23k5.eq_1)) (@unfC _ _ (y23k6.eq_1))))) (zc (zc (@unfC _ _ (y23k7.eq_1)) (zc (@unfC _ _ (y23k8.eq_1)) (@unfC _ _ (y23k9.eq_1)))) (zc (zc (@unfC _ _ (y23k10.eq_1)) (@unfC _ _ (y23k11.eq_1))) (zc (@unfC _ _ (y23k12.eq_1)) (@unfC _ _ (y23k13.eq_1))))))
def Czb:LFn:=⟨90,[.t 10],(.seq (.sq [(zs 10 (.mv true (zi 0)))]) y23k13)⟩
def y23l1:LCode:=(.block 1 (.sq [(zv 48 12),(zs 49 (.bin .add .sc (.t 48) (zi 1))),(zs 12 (.mv true (.t 49)))]))
def y23l2:LCode:=(.seq (.seq (.tree (.rd (zv 32 12) 0 false (.rd (zv 33 13) 1 false (.rd (zs 34 (.bin .leq .sc (.t 32) (.t 33))) 2 false (.rd (zv 35 34) 3 false (.rd (zt 36 35 (.mv false (.t 4))) 4 false (.rd (zt 37 35 (.mv false (.t 0))) 5 false (.rd (zt 38 35 (.mv false (.t 12))) 6 false (.rd (zt 39 35 (.ixa (.sl 1) (.t 37) (.t 38))) 7 false (.rd (zt 40 35 (.load1 false (.t 39))) 8 false (.rd (zt 41 35 (.mv false (.t 0))) 9 false (.rd (zt 42 35 (.mv false (.t 1))) 10 false (.rd (zt 43 35 (.ixa (.sl 1) (.t 41) (.t 42))) 11 false (.rd (zt 44 35 (.load1 false (.t 43))) 12 false (.mv (zt 45 35 (.call (.t 36) [(.t 40),(.t 44)])) [0,1,2,3,4,5,6,7,8,9,10,11,12] (.rd (zt 46 35 (.bin .lss .sc (.t 45) (zi 0))) 14 false (.rd (zs 47 (.pick (.t 35) (.t 46) zF)) 15 false .done)) .stop))))))))))))))) (.cond (.t 47) .skip (.exit 0))) y23l1)
def y23l3:LCode:=(.block 3 (.sq [(zv 67 13),(zs 68 (.bin .sub .sc (.t 67) (zi 1))),(zs 13 (.mv true (.t 68)))]))
def y23l4:LCode:=(.seq (.seq (.tree (.rd (zv 50 12) 0 false (.rd (zv 51 13) 1 false (.rd (zs 52 (.bin .leq .sc (.t 50) (.t 51))) 2 false (.rd (zv 53 52) 3 false (.rd (zt 54 53 (.mv false (.t 4))) 4 false (.rd (zt 55 53 (.mv false (.t 0))) 5 false (.rd (zt 56 53 (.mv false (.t 13))) 6 false (.rd (zt 57 53 (.ixa (.sl 1) (.t 55) (.t 56))) 7 false (.rd (zt 58 53 (.load1 false (.t 57))) 8 false (.rd (zt 59 53 (.mv false (.t 0))) 9 false (.rd (zt 60 53 (.mv false (.t 1))) 10 false (.rd (zt 61 53 (.ixa (.sl 1) (.t 59) (.t 60))) 11 false (.rd (zt 62 53 (.load1 false (.t 61))) 12 false (.mv (zt 63 53 (.call (.t 54) [(.t 58),(.t 62)])) [0,1,2,3,4,5,6,7,8,9,10,11,12] (.rd (zt 64 53 (.bin .lss .sc (.t 63) (zi 0))) 14 false (.rd (zt 65 53 (.un .not (.t 64))) 15 false (.rd (zs 66 (.pick (.t 53) (.t 65) zF)) 16 false .done))) .stop))))))))))))))) (.cond (.t 66) .skip (.exit 2))) y23l3)
def y23l5:LCode:=(.seq (.sq [(zv 86 13),(zs 10 (.mv true (.t 86))),(zs 11 (.mv true zT))]) .ret)
def y23l6:LCode:=(.seq (.tree (.rd (zv 72 0) 0 false (.rd (zv 73 13) 1 false (.rd (zv 74 0) 2 true (.rd (zv 75 1) 3 true (.rd (zv 76 0) 4 false (.rd (zv 77 1) 5 false (.rd (zs 78 (.ixa (.sl 1) (.t 76) (.t 77))) 6 false (.rd (zs 79 (.load1 false (.t 78))) 7 false (.rd (zv 80 0) 8 false (.rd (zv 81 13) 9 false (.rd (zs 82 (.ixa (.sl 1) (.t 80) (.t 81))) 10 false (.rd (zs 83 (.load1 false (.t 82))) 11 false (.rd (zs 84 (.ixa (.sl 1) (.t 72) (.t 73))) 12 false (.mv (zn (.store 1 (.t 84) (.t 79))) [0,1,4,5,6,7,8,9,10,11,12] (.rd (zs 85 (.ixa (.sl 1) (.t 74) (.t 75))) 14 false (.mv (zn (.store 1 (.t 85) (.t 83))) [0,1,2,3,4,5,6,7,8,9,10,11,12,13,14] .done .stop)) .stop))))))))))))))) y23l5)
def y23l7:LCode:=(.block 7 (.sq [(zv 121 12),(zs 122 (.bin .add .sc (.t 121) (zi 1))),(zs 12 (.mv true (.t 122)))]))
def y23l8:LCode:=(.seq (.seq (.tree (.rd (zv 105 12) 0 false (.rd (zv 106 13) 1 false (.rd (zs 107 (.bin .leq .sc (.t 105) (.t 106))) 2 false (.rd (zv 108 107) 3 false (.rd (zt 109 108 (.mv false (.t 4))) 4 false (.rd (zt 110 108 (.mv false (.t 0))) 5 false (.rd (zt 111 108 (.mv false (.t 12))) 6 false (.rd (zt 112 108 (.ixa (.sl 1) (.t 110) (.t 111))) 7 false (.rd (zt 113 108 (.load1 false (.t 112))) 8 false (.rd (zt 114 108 (.mv false (.t 0))) 9 false (.rd (zt 115 108 (.mv false (.t 1))) 10 false (.rd (zt 116 108 (.ixa (.sl 1) (.t 114) (.t 115))) 11 false (.rd (zt 117 108 (.load1 false (.t 116))) 12 false (.mv (zt 118 108 (.call (.t 109) [(.t 113),(.t 117)])) [0,1,2,3,4,5,6,7,8,9,10,11,12] (.rd (zt 119 108 (.bin .lss .sc (.t 118) (zi 0))) 14 false (.rd (zs 120 (.pick (.t 108) (.t 119) zF)) 15 false .done)) .stop))))))))))))))) (.cond (.t 120) .skip (.exit 6))) y23l7)
def y23l9:LCode:=(.block 9 (.sq [(zv 140 13),(zs 141 (.bin .sub .sc (.t 140) (zi 1))),(zs 13 (.mv true (.t 141)))]))
def y23l10:LCode:=(.seq (.seq (.tree (.rd (zv 123 12) 0 false (.rd (zv 124 13) 1 false (.rd (zs 125 (.bin .leq .sc (.t 123) (.t 124))) 2 false (.rd (zv 126 125) 3 false (.rd (zt 127 126 (.mv false (.t 4))) 4 false (.rd (zt 128 126 (.mv false (.t 0))) 5 false (.rd (zt 129 126 (.mv false (.t 13))) 6 false (.rd (zt 130 126 (.ixa (.sl 1) (.t 128) (.t 129))) 7 false (.rd (zt 131 126 (.load1 false (.t 130))) 8 false (.rd (zt 132 126 (.mv false (.t 0))) 9 false (.rd (zt 133 126 (.mv false (.t 1))) 10 false (.rd (zt 134 126 (.ixa (.sl 1) (.t 132) (.t 133))) 11 false (.rd (zt 135 126 (.load1 false (.t 134))) 12 false (.mv (zt 136 126 (.call (.t 127) [(.t 131),(.t 135)])) [0,1,2,3,4,5,6,7,8,9,10,11,12] (.rd (zt 137 126 (.bin .lss .sc (.t 136) (zi 0))) 14 false (.rd (zt 138 126 (.un .not (.t 137))) 15 false (.rd (zs 139 (.pick (.t 126) (.t 138) zF)) 16 false .done))) .stop))))))))))))))) (.cond (.t 139) .skip (.exit 8))) y23l9)
def y23l11:LCode:=(.sq [(zv 161 13),(zs 162 (.bin .sub .sc (.t 161) (zi 1))),(zs 13 (.mv true (.t 162)))])
def y23l12:LCode:=(.seq (.sq [(zv 159 12),(zs 160 (.bin .add .sc (.t 159) (zi 1))),(zs 12 (.mv true (.t 160)))]) y23l11)
def y23l13:LCode:=(.seq (.tree (.rd (zv 145 0) 0 false (.rd (zv 146 12) 1 false (.rd (zv 147 0) 2 true (.rd (zv 148 13) 3 true (.rd (zv 149 0) 4 false (.rd (zv 150 13) 5 false (.rd (zs 151 (.ixa (.sl 1) (.t 149) (.t 150))) 6 false (.rd (zs 152 (.load1 false (.t 151))) 7 false (.rd (zv 153 0) 8 false (.rd (zv 154 12) 9 false (.rd (zs 155 (.ixa (.sl 1) (.t 153) (.t 154))) 10 false (.rd (zs 156 (.load1 false (.t 155))) 11 false (.rd (zs 157 (.ixa (.sl 1) (.t 145) (.t 146))) 12 false (.mv (zn (.store 1 (.t 157) (.t 152))) [0,1,4,5,6,7,8,9,10,11,12] (.rd (zs 158 (.ixa (.sl 1) (.t 147) (.t 148))) 14 false (.mv (zn (.store 1 (.t 158) (.t 156))) [0,1,2,3,4,5,6,7,8,9,10,11,12,13,14] .done .stop)) .stop))))))))))))))) y23l12)
def y23l14:LCode:=(.seq (.seq (.sq [(zv 142 12),(zv 143 13),(zs 144 (.bin .gtr .sc (.t 142) (.t 143)))]) (.cond (.t 144) (.exit 4) .skip)) y23l13)
def y23l15:LCode:=(.seq (.block 8 (.loop (zm false [0,2,2,1,7,2,164]) y23l10)) y23l14)
def y23l16:LCode:=(.block 5 (.seq (.block 6 (.loop (zm false [0,2,2,1,7,2,164]) y23l8)) y23l15))
def y23l17:LCode:=(.seq (.sq [(zv 177 13),(zs 10 (.mv true (.t 177))),(zs 11 (.mv true zF))]) .ret)
def y23l18:LCode:=(.seq (.tree (.rd (zv 163 0) 0 false (.rd (zv 164 13) 1 false (.rd (zv 165 0) 2 true (.rd (zv 166 1) 3 true (.rd (zv 167 0) 4 false (.rd (zv 168 1) 5 false (.rd (zs 169 (.ixa (.sl 1) (.t 167) (.t 168))) 6 false (.rd (zs 170 (.load1 false (.t 169))) 7 false (.rd (zv 171 0) 8 false (.rd (zv 172 13) 9 false (.rd (zs 173 (.ixa (.sl 1) (.t 171) (.t 172))) 10 false (.rd (zs 174 (.load1 false (.t 173))) 11 false (.rd (zs 175 (.ixa (.sl 1) (.t 163) (.t 164))) 12 false (.mv (zn (.store 1 (.t 175) (.t 170))) [0,1,4,5,6,7,8,9,10,11,12] (.rd (zs 176 (.ixa (.sl 1) (.t 165) (.t 166))) 14 false (.mv (zn (.store 1 (.t 176) (.t 174))) [0,1,2,3,4,5,6,7,8,9,10,11,12,13,14] .done .stop)) .stop))))))))))))))) y23l17)
def y23l19:LCode:=(.seq (.block 4 (.loop (zm false [0,2,2,1,7,2,164]) y23l16)) y23l18)
def y23l20:LCode:=(.seq (.sq [(zv 103 13),(zs 104 (.bin .sub .sc (.t 103) (zi 1))),(zs 13 (.mv true (.t 104)))]) y23l19)
def y23l21:LCode:=(.seq (.sq [(zv 101 12),(zs 102 (.bin .add .sc (.t 101) (zi 1))),(zs 12 (.mv true (.t 102)))]) y23l20)
def y23l22:LCode:=(.seq (.tree (.rd (zv 87 0) 0 false (.rd (zv 88 12) 1 false (.rd (zv 89 0) 2 true (.rd (zv 90 13) 3 true (.rd (zv 91 0) 4 false (.rd (zv 92 13) 5 false (.rd (zs 93 (.ixa (.sl 1) (.t 91) (.t 92))) 6 false (.rd (zs 94 (.load1 false (.t 93))) 7 false (.rd (zv 95 0) 8 false (.rd (zv 96 12) 9 false (.rd (zs 97 (.ixa (.sl 1) (.t 95) (.t 96))) 10 false (.rd (zs 98 (.load1 false (.t 97))) 11 false (.rd (zs 99 (.ixa (.sl 1) (.t 87) (.t 88))) 12 false (.mv (zn (.store 1 (.t 99) (.t 94))) [0,1,4,5,6,7,8,9,10,11,12] (.rd (zs 100 (.ixa (.sl 1) (.t 89) (.t 90))) 14 false (.mv (zn (.store 1 (.t 100) (.t 98))) [0,1,2,3,4,5,6,7,8,9,10,11,12,13,14] .done .stop)) .stop))))))))))))))) y23l21)
def y23l23:LCode:=(.seq (.seq (.sq [(zv 69 12),(zv 70 13),(zs 71 (.bin .gtr .sc (.t 69) (.t 70)))]) (.cond (.t 71) y23l6 .skip)) y23l22)
def y23l24:LCode:=(.seq (.block 2 (.loop (zm false [0,2,2,1,7,2,164]) y23l4)) y23l23)
def y23l25:LCode:=(.seq (.block 0 (.loop (zm false [0,2,2,1,7,2,164]) y23l2)) y23l24)
def y23l26:LCode:=(.seq (.sq [(zv 28 1),(zs 29 (.bin .add .sc (.t 28) (zi 1))),(zv 30 2),(zs 31 (.bin .sub .sc (.t 30) (zi 1))),(zs 12 (.mv true (.t 29))),(zs 13 (.mv true (.t 31)))]) y23l25)
def y23l27:LCode:=(.seq (.tree (.rd (zv 14 0) 0 false (.rd (zv 15 1) 1 false (.rd (zv 16 0) 2 true (.rd (zv 17 3) 3 true (.rd (zv 18 0) 4 false (.rd (zv 19 3) 5 false (.rd (zs 20 (.ixa (.sl 1) (.t 18) (.t 19))) 6 false (.rd (zs 21 (.load1 false (.t 20))) 7 false (.rd (zv 22 0) 8 false (.rd (zv 23 1) 9 false (.rd (zs 24 (.ixa (.sl 1) (.t 22) (.t 23))) 10 false (.rd (zs 25 (.load1 false (.t 24))) 11 false (.rd (zs 26 (.ixa (.sl 1) (.t 14) (.t 15))) 12 false (.mv (zn (.store 1 (.t 26) (.t 21))) [0,1,4,5,6,7,8,9,10,11,12] (.rd (zs 27 (.ixa (.sl 1) (.t 16) (.t 17))) 14 false (.mv (zn (.store 1 (.t 27) (.t 25))) [0,1,2,3,4,5,6,7,8,9,10,11,12,13,14] .done .stop)) .stop))))))))))))))) y23l26)
def Uz9:=PLift.up (zc (zc (zc (zc (@unfC _ _ (y23l1.eq_1)) (zc (@unfC _ _ (y23l2.eq_1)) (@unfC _ _ (y23l3.eq_1)))) (zc (@unfC _ _ (y23l4.eq_1)) (zc (@unfC _ _ (y23l5.eq_1)) (@unfC _ _ (y23l6.eq_1))))) (zc (zc (@unfC _ _ (y23l7.eq_1)) (zc (@unfC _ _ (y23l8.eq_1)) (@unfC _ _ (y23l9.eq_1)))) (zc (zc (@unfC _ _ (y23l10.eq_1)) (@unfC _ _ (y23l11.eq_1))) (zc (@unfC _ _ (y23l12.eq_1)) (@unfC _ _ (y23l13.eq_1)))))) (zc (zc (zc (@unfC _ _ (y23l14.eq_1)) (zc (@unfC _ _ (y23l15.eq_1)) (@unfC _ _ (y23l16.eq_1)))) (zc (zc (@unfC _ _ (y23l17.eq_1)) (@unfC _ _ (y23l18.eq_1))) (zc (@unfC _ _ (y23l19.eq_1)) (@unfC _ _ (y23l20.eq_1))))) (zc (zc (@unfC _ _ (y23l21.eq_1)) (zc (@unfC _ _ (y23l22.eq_1)) (@unfC _ _ (y23l23.eq_1)))) (zc (zc (@unfC _ _ (y23l24.eq_1)) (@unfC _ _ (y23l25.eq_1))) (zc (@unfC _ _ (y23l26.eq_1)) (@unfC _ _ (y23l27.eq_1)))))))
def Cz7:LFn:=⟨178,[.t 10,.t 11],(.seq (.sq [(zs 10 (.mv true (zi 0))),(zs 11 (.mv true zF))]) y23l27)⟩
def y23m1 (c:Nat→FuncId):LCode:=(.seq (.sq [(zs 26 (.mv true (.t 0))),(zv 27 1),(zv 28 2),(zv 29 4),(zs 30 (.call (.f (c 0)) [(.t 26),(.t 27),(.t 28),(.t 29)]))]) .ret)
def y23m2 (c:Nat→FuncId):LCode:=(.seq (.sq [(zs 33 (.mv true (.t 0))),(zv 34 1),(zv 35 2),(zv 36 4),(zs 37 (.call (.f (c 1)) [(.t 33),(.t 34),(.t 35),(.t 36)]))]) .ret)
def y23m3 (c:Nat→FuncId):LCode:=(.sq [(zv 45 3),(zs 46 (.bin .sub .sc (.t 45) (zi 1))),(zs 3 (.mv true (.t 46)))])
def y23m4 (c:Nat→FuncId):LCode:=(.seq (.sq [(zv 40 0),(zv 41 1),(zv 42 2),(zv 43 4),(zs 44 (.call (.f (c 2)) [(.t 40),(.t 41),(.t 42),(.t 43)]))]) (y23m3 c))
def y23m5 (c:Nat→FuncId):LCode:=(.seq (.sq [(zv 62 2),(zs 63 (.bin .sub .sc (.t 62) (zi 1))),(zv 64 13),(zv 65 1),(zs 66 (.bin .sub .sc (.t 64) (.t 65))),(zs 67 (.bin .sub .sc (.t 63) (.t 66))),(zs 13 (.mv true (.t 67)))]) (.sq [(zs 14 (.mv true (zi 1)))]))
def y23m6 (c:Nat→FuncId):LCode:=(.seq (.sq [(zv 57 0),(zv 58 1),(zv 59 2),(zv 60 4),(zs 61 (.call (.f (c 4)) [(.t 57),(.t 58),(.t 59),(.t 60)]))]) (y23m5 c))
def y23m7 (c:Nat→FuncId):LCode:=(.seq (.sq [(zv 76 0),(zv 77 1),(zv 78 2),(zv 79 4),(zs 80 (.call (.f (c 5)) [(.t 76),(.t 77),(.t 78),(.t 79)]))]) (.cond (.t 80) .ret .skip))
def y23m8 (c:Nat→FuncId):LCode:=(.seq (.sq [(zv 98 0),(zv 99 1),(zv 100 2),(zv 101 13),(zv 102 4),(zs 103 (.call (.f (c 6)) [(.t 98),(.t 99),(.t 100),(.t 101),(.t 102)])),(zs 15 (.mv true (.t 103)))]) (.seq (.sq [(zv 104 15),(zs 1 (.mv true (.t 104)))]) (.exit 1)))
def y23m9 (c:Nat→FuncId):LCode:=(.sq [(zv 135 16),(zs 136 (.bin .add .sc (.t 135) (zi 1))),(zs 1 (.mv true (.t 136)))])
def y23m10 (c:Nat→FuncId):LCode:=(.seq (.sq [(zv 129 0),(zv 130 1),(zv 131 16),(zv 132 3),(zv 133 4),(zs 134 (.call (.f (c 8)) [(.t 129),(.t 130),(.t 131),(.t 132),(.t 133)]))]) (y23m9 c))
def y23m11 (c:Nat→FuncId):LCode:=(.seq (.sq [(zv 126 18),(zv 127 20),(zs 128 (.bin .geq .sc (.t 126) (.t 127))),(zs 10 (.mv true (.t 128)))]) (y23m10 c))
def y23m12 (c:Nat→FuncId):LCode:=(.seq (.sq [(zv 140 0),(zv 141 16),(zs 142 (.bin .add .sc (.t 141) (zi 1))),(zv 143 2),(zv 144 3),(zv 145 4),(zs 146 (.call (.f (c 8)) [(.t 140),(.t 142),(.t 143),(.t 144),(.t 145)]))]) (.sq [(zv 147 16),(zs 2 (.mv true (.t 147)))]))
def y23m13 (c:Nat→FuncId):LCode:=(.seq (.sq [(zv 137 19),(zv 138 20),(zs 139 (.bin .geq .sc (.t 137) (.t 138))),(zs 10 (.mv true (.t 139)))]) (y23m12 c))
def y23m14 (c:Nat→FuncId):LCode:=(.seq (.sq [(zv 123 18),(zv 124 19),(zs 125 (.bin .lss .sc (.t 123) (.t 124)))]) (.cond (.t 125) (y23m11 c) (y23m13 c)))
def y23m15 (c:Nat→FuncId):LCode:=(.seq (.sq [(zv 121 12),(zs 122 (.bin .quo .sc (.t 121) (zi 8))),(zs 20 (.mv true (.t 122)))]) (y23m14 c))
def y23m16 (c:Nat→FuncId):LCode:=(.seq (.sq [(zv 115 16),(zv 116 1),(zs 117 (.bin .sub .sc (.t 115) (.t 116))),(zv 118 2),(zv 119 16),(zs 120 (.bin .sub .sc (.t 118) (.t 119))),(zs 18 (.mv true (.t 117))),(zs 19 (.mv true (.t 120)))]) (y23m15 c))
def y23m17 (c:Nat→FuncId):LCode:=(.seq (.sq [(zv 114 17),(zs 11 (.mv true (.t 114)))]) (y23m16 c))
def y23m18 (c:Nat→FuncId):LCode:=(.seq (.sq [(zv 106 0),(zv 107 1),(zv 108 2),(zv 109 13),(zv 110 4),(zs 111 (.call (.f (c 7)) [(.t 106),(.t 107),(.t 108),(.t 109),(.t 110)])),(zv 105 111),(zs 112 (.ext (.t 105) 0)),(zs 113 (.ext (.t 105) 1)),(zs 16 (.mv true (.t 112))),(zs 17 (.mv true (.t 113)))]) (y23m17 c))
def y23m19 (c:Nat→FuncId):LCode:=(.seq (.seq (.tree (.rd (zv 81 1) 0 false (.rd (zs 82 (.bin .gtr .sc (.t 81) (zi 0))) 1 false (.rd (zv 83 82) 2 false (.rd (zt 84 83 (.mv false (.t 4))) 3 false (.rd (zt 85 83 (.mv false (.t 0))) 4 false (.rd (zt 86 83 (.mv false (.t 1))) 5 false (.rd (zt 87 83 (.bin .sub .sc (.t 86) (zi 1))) 6 false (.rd (zt 88 83 (.ixa (.sl 1) (.t 85) (.t 87))) 7 false (.rd (zt 89 83 (.load1 false (.t 88))) 8 false (.rd (zt 90 83 (.mv false (.t 0))) 9 false (.rd (zt 91 83 (.mv false (.t 13))) 10 false (.rd (zt 92 83 (.ixa (.sl 1) (.t 90) (.t 91))) 11 false (.rd (zt 93 83 (.load1 false (.t 92))) 12 false (.mv (zt 94 83 (.call (.t 84) [(.t 89),(.t 93)])) [0,1,2,3,4,5,6,7,8,9,10,11,12] (.rd (zt 95 83 (.bin .lss .sc (.t 94) (zi 0))) 14 false (.rd (zt 96 83 (.un .not (.t 95))) 15 false (.rd (zs 97 (.pick (.t 83) (.t 96) zF)) 16 false .done))) .stop))))))))))))))) (.cond (.t 97) (y23m8 c) .skip)) (y23m18 c))
def y23m20 (c:Nat→FuncId):LCode:=(.seq (.seq (.sq [(zv 68 10),(zv 69 68),(zt 70 69 (.mv false (.t 11))),(zs 71 (.pick (.t 69) (.t 70) zF)),(zv 72 71),(zt 73 72 (.mv false (.t 14))),(zt 74 72 (.bin .eql .sc (.t 73) (zi 1))),(zs 75 (.pick (.t 72) (.t 74) zF))]) (.cond (.t 75) (y23m7 c) .skip)) (y23m19 c))
def y23m21 (c:Nat→FuncId):LCode:=(.seq (.seq (.sq [(zv 55 14),(zs 56 (.bin .eql .sc (.t 55) (zi 2)))]) (.cond (.t 56) (y23m6 c) .skip)) (y23m20 c))
def y23m22 (c:Nat→FuncId):LCode:=(.seq (.sq [(zv 48 0),(zv 49 1),(zv 50 2),(zv 51 4),(zs 52 (.call (.f (c 3)) [(.t 48),(.t 49),(.t 50),(.t 51)])),(zv 47 52),(zs 53 (.ext (.t 47) 0)),(zs 54 (.ext (.t 47) 1)),(zs 13 (.mv true (.t 53))),(zs 14 (.mv true (.t 54)))]) (y23m21 c))
def y23m23 (c:Nat→FuncId):LCode:=(.seq (.seq (.sq [(zv 38 10),(zs 39 (.un .not (.t 38)))]) (.cond (.t 39) (y23m4 c) .skip)) (y23m22 c))
def y23m24 (c:Nat→FuncId):LCode:=(.seq (.seq (.sq [(zv 31 3),(zs 32 (.bin .eql .sc (.t 31) (zi 0)))]) (.cond (.t 32) (y23m2 c) .skip)) (y23m23 c))
def y23m25 (c:Nat→FuncId):LCode:=(.seq (.seq (.sq [(zv 24 12),(zs 25 (.bin .leq .sc (.t 24) (zi 12)))]) (.cond (.t 25) (y23m1 c) .skip)) (y23m24 c))
def y23m26 (c:Nat→FuncId):LCode:=(.block 1 (.seq (.sq [(zv 21 2),(zv 22 1),(zs 23 (.bin .sub .sc (.t 21) (.t 22))),(zs 12 (.mv true (.t 23)))]) (y23m25 c)))
def y23m27 (c:Nat→FuncId):LCode:=(.block 0 (.loop (zm false [0,5,5,2,136]) (y23m26 c)))
def Uz1y (c:Nat→FuncId):=PLift.up (zc (zc (zc (zc (@unfC _ _ (y23m1.eq_1 c)) (zc (@unfC _ _ (y23m2.eq_1 c)) (@unfC _ _ (y23m3.eq_1 c)))) (zc (@unfC _ _ (y23m4.eq_1 c)) (zc (@unfC _ _ (y23m5.eq_1 c)) (@unfC _ _ (y23m6.eq_1 c))))) (zc (zc (@unfC _ _ (y23m7.eq_1 c)) (zc (@unfC _ _ (y23m8.eq_1 c)) (@unfC _ _ (y23m9.eq_1 c)))) (zc (zc (@unfC _ _ (y23m10.eq_1 c)) (@unfC _ _ (y23m11.eq_1 c))) (zc (@unfC _ _ (y23m12.eq_1 c)) (@unfC _ _ (y23m13.eq_1 c)))))) (zc (zc (zc (@unfC _ _ (y23m14.eq_1 c)) (zc (@unfC _ _ (y23m15.eq_1 c)) (@unfC _ _ (y23m16.eq_1 c)))) (zc (zc (@unfC _ _ (y23m17.eq_1 c)) (@unfC _ _ (y23m18.eq_1 c))) (zc (@unfC _ _ (y23m19.eq_1 c)) (@unfC _ _ (y23m20.eq_1 c))))) (zc (zc (@unfC _ _ (y23m21.eq_1 c)) (zc (@unfC _ _ (y23m22.eq_1 c)) (@unfC _ _ (y23m23.eq_1 c)))) (zc (zc (@unfC _ _ (y23m24.eq_1 c)) (@unfC _ _ (y23m25.eq_1 c))) (zc (@unfC _ _ (y23m26.eq_1 c)) (@unfC _ _ (y23m27.eq_1 c)))))))
def Cz11 (c:Nat→FuncId):LFn:=⟨148,[],(.seq (.sq [(zs 10 (.mv true zT))]) (.seq (.sq [(zs 11 (.mv true zT))]) (y23m27 c)))⟩
def y23n1 (c:Nat→FuncId):LCode:=(.sq [(zs 7 (.mv true (.t 0))),(zv 8 4),(zv 9 4),(zs 10 (.conv (.int .u64) (.t 9))),(zs 11 (.call (.f (c 0)) [(.t 10)])),(zv 12 1),(zs 13 (.call (.f (c 1)) [(.t 7),(zi 0),(.t 8),(.t 11),(.t 12)]))])
def Uz1d (c:Nat→FuncId):=PLift.up (@unfC _ _ (y23n1.eq_1 c))
def Cz1r (c:Nat→FuncId):LFn:=⟨14,[],(.seq (.sq [(zv 5 0),(zs 6 (.len .sl (.t 5))),(zs 4 (.mv true (.t 6)))]) (y23n1 c))⟩
end Go.AM
namespace Go.AM
open Go
open AV renaming undef → uu
set_option maxRecDepth 20000
def ltI (x y:Int):Bool:=decide (x < y)
def LessS (C:CallW) (f:FuncId):Prop:=∀x y:Int,FnS C f [.s (.int .i64 x),.s (.int .i64 y)] (.bool (ltI x y))
theorem cmp_Less_spec {C:CallW} (P:Program) {c:Nat→FuncId} (h0:∀x:Int,FnS C (c 0) [.s (.int .i64 x)] (.bool false)):∀x y S H K,K (.bool (ltI x y)) ⟨S,H⟩→runL C P (Cz3c c) [.s (.int .i64 x),.s (.int .i64 y)] ⟨S,H⟩ K:=by
  intro x y S H K hK
  unfold ltI at hK
  simp only [Cz3c,A_,simprocAttr,ne_eq,(Uz47 _).1]
  refine h0 x _ _ _ ?_
  simp only [A_,simprocAttr,ne_eq,(Uz47 _).1]
  exact hK
def SrtS (C:CallW) (f:FuncId) (X:Array Int→Nat→Nat→Array Int):Prop:=∀(n:Nat) (d:Array Int) (a b:Nat) S H (K:AV→St→Prop),S[n]? = some (flat iA d)→a≤b→b≤d.size→d.size≤4611686018427387904→K (.tup []) ⟨S.set n (flat iA (X d a b)),H⟩→C (.fn f) [.row (.stk n) 0 d.size d.size,.s (.int .i64 a),.s (.int .i64 b)] ⟨S,H⟩ K
theorem ird {S:List (List AV)} {H:List HObj} {n i:Nat} {d:Array Int} (hS:S[n]? = some (flat iA d)) (hi:i < d.size):load1L false (.ptr (.stk n) i) ⟨S,H⟩=some (.s (.int .i64 d[i]!),⟨S,H⟩):=by
  have:=row_read1 iA_EK (H:=H) hS hi fun _=>rfl
  rwa [Nat.zero_add,Nat.mul_one] at this
theorem iwr {S:List (List AV)} {H:List HObj} {n i:Nat} {x:Int} {d:Array Int} (hS:S[n]? = some (flat iA d)) (hi:i < d.size):storeL 1 (.ptr (.stk n) i) (.s (.int .i64 x)) ⟨S,H⟩=some ⟨S.set n (flat iA (d.setIfInBounds i x)),H⟩:=by
  have:=row_write iA_EK (H:=H) (x:=x) hS hi
  rwa [Nat.zero_add,Nat.mul_one] at this
theorem ixi {r:Ref} {len cap i:Nat} {k:IntKind} (h:i < len):indexAddrL (.sl 1) (.row r 0 len cap) (.s (.int k (i:Int)))=some (.ptr r i):=by
  have:=ixr_n (r:=r) (off:=0) (cap:=cap) (c:=1) (k:=k) h (by omega)
  rwa [Nat.zero_add,Nat.mul_one] at this
theorem sset {S:List (List AV)} {n:Nat} {x y:List AV} (h:S[n]? = some x):(S.set n y)[n]? = some y:=by
  have:n < S.length:=by
    rcases Nat.lt_or_ge n S.length with h1 | h1
    · exact h1
    · rw [List.getElem?_eq_none h1] at h; cases h
  simp [this]
theorem slt {S:List (List AV)} {n:Nat} {x:List AV} (h:S[n]? = some x):n < S.length:=by
  rcases Nat.lt_or_ge n S.length with h1 | h1
  · exact h1
  · rw [List.getElem?_eq_none h1] at h; cases h
theorem sself {S:List (List AV)} {n:Nat} {x:List AV} (h:S[n]? = some x):S.set n x=S:=by
  refine List.ext_getElem? fun i => ?_
  by_cases e:n=i
  · subst e; rw [List.getElem?_set_self (slt h),h]
  · rw [List.getElem?_set_ne e]
theorem swp_size {d:Array Int} {i j:Nat}:(Sort.swp d i j).size=d.size:=by simp [Sort.swp]
set_option maxHeartbeats 16000000 in
theorem insertionSort_spec {C:CallW} (hC:LeC C C) (P:Program) {c:Nat→FuncId} (h0:LessS C (c 0)):∀(n:Nat) (d:Array Int) (a b:Nat) S H (K:AV→St→Prop),S[n]? = some (flat iA d)→a≤b→b≤d.size→d.size≤4611686018427387904→K (.tup []) ⟨S.set n (flat iA (Sort.insertionSort ltI d a b)),H⟩→runL C P (Czv c) [.row (.stk n) 0 d.size d.size,.s (.int .i64 a),.s (.int .i64 b)] ⟨S,H⟩ K:=by
  intro n d a b S H K hS hab hbd hdl hK
  have hn:=slt hS
  have hw0:IntKind.i64.wrap ((a:Int) + 1)=((a + 1:Nat):Int):=by rw [wrap_i64 (by omega) (by omega)]; omega
  simp only [Czv,A_,simprocAttr,ne_eq,(Uzl _).1,hw0]
  refine loop_rule hC (α:=Nat×Array Int) (fun x=>b - x.1) (fun x=>[.row (.stk n) 0 d.size d.size,.s (.int .i64 a),.s (.int .i64 b),uu,uu,uu,.s (.int .i64 x.1),uu,uu,uu,uu,uu,uu,uu,uu,uu,uu,uu,uu,uu,uu,uu,uu,uu,uu,uu,uu,uu,uu,uu,uu,uu,uu,uu,uu,uu,uu,uu,uu,uu,uu,uu,uu,uu,uu,uu,uu,uu,uu]) (fun x=>S.set n (flat iA x.2)) (fun _=>H) (fun x=>a + 1≤x.1∧x.2.size=d.size∧Sort.insertionSort ltI d a b=Sort.insOuter ltI a b x.1 x.2) (a + 1,d) ⟨Nat.le_refl _,rfl,rfl⟩ (by simp [keep,zm]) (by rw [sself hS]; simp) rfl (fun x _=>by simp [AV.under,AV.under.go,hn]) ?_
  rintro ⟨i,e⟩ ⟨hi,hes,hinv⟩ ih
  dsimp only at hi hes hinv ih ⊢
  have hSe:(S.set n (flat iA e))[n]? = some (flat iA e):=sset hS
  by_cases hib:i < b
  case neg =>
    have hlt:¬((i:Int) < (b:Int)):=by omega
    rw [Sort.insOuter,if_neg hib] at hinv
    rw [hinv] at hK
    simp only [A_,simprocAttr,ne_eq,(Uzl _).1,hlt]
    exact hK
  have hlt:((i:Int) < (b:Int)):=by omega
  rw [Sort.insOuter,if_pos hib] at hinv
  simp only [A_,simprocAttr,ne_eq,(Uzl _).1,hlt]
  refine loop_rule hC (α:=Nat×Array Int) (fun x=>x.1) (fun x=>[.row (.stk n) 0 d.size d.size,.s (.int .i64 a),.s (.int .i64 b),uu,uu,uu,.s (.int .i64 i),.s (.int .i64 x.1),uu,uu,uu,uu,uu,uu,uu,uu,uu,uu,uu,uu,uu,uu,uu,uu,uu,uu,uu,uu,uu,uu,uu,uu,uu,uu,uu,uu,uu,uu,uu,uu,uu,uu,uu,uu,uu,uu,uu,uu,uu]) (fun x=>S.set n (flat iA x.2)) (fun _=>H) (fun x=>x.1≤i∧x.2.size=d.size∧Sort.insInner ltI a i e=Sort.insInner ltI a x.1 x.2) (i,e) ⟨Nat.le_refl _,hes,rfl⟩ (by simp [keep,zm]) (by rw [List.take_of_length_le]; simp) rfl (fun x _=>by simp [AV.under,AV.under.go,hn]) ?_
  rintro ⟨j,g⟩ ⟨hj,hgs,hjv⟩ ih2
  dsimp only at hj hgs hjv ih2 ⊢
  have hSg:(S.set n (flat iA g))[n]? = some (flat iA g):=sset hS
  have hwi:IntKind.i64.wrap ((i:Int) + 1)=((i + 1:Nat):Int):=by rw [wrap_i64 (by omega) (by omega)]; omega
  have stop:Sort.insInner ltI a i e=g→K (.tup []) ⟨S.set n (flat iA (Sort.insertionSort ltI d a b)),H⟩→∀fr' S',keep (zm false [0,3,3,1,42]) fr'=[.row (.stk n) 0 d.size d.size,.s (.int .i64 a),.s (.int .i64 b),uu,uu,uu,.s (.int .i64 (i + 1:Nat)),uu,uu,uu,uu,uu,uu,uu,uu,uu,uu,uu,uu,uu,uu,uu,uu,uu,uu,uu,uu,uu,uu,uu,uu,uu,uu,uu,uu,uu,uu,uu,uu,uu,uu,uu,uu,uu,uu,uu,uu,uu,uu]→S'.take S.length=S.set n (flat iA g)→runLp C P false (zm false [0,3,3,1,42]) (y9b7 c) S.length [Item.blk 0] fr' ⟨S',H⟩ (fin S.length [] K):=fun h1 h2 fr' S' h3 h4=>ih (i + 1,g) fr' S' H (by dsimp only; omega) ⟨by dsimp only; omega,hgs,by rw [hinv,h1]⟩ h3 h4 rfl
  have fin1:∀fr',keep (zm false [0,3,3,1,42]) fr'=[.row (.stk n) 0 d.size d.size,.s (.int .i64 a),.s (.int .i64 b),uu,uu,uu,.s (.int .i64 (i + 1:Nat)),uu,uu,uu,uu,uu,uu,uu,uu,uu,uu,uu,uu,uu,uu,uu,uu,uu,uu,uu,uu,uu,uu,uu,uu,uu,uu,uu,uu,uu,uu,uu,uu,uu,uu,uu,uu,uu,uu,uu,uu,uu,uu]→Sort.insInner ltI a i e=g→runLp C P false (zm false [0,3,3,1,42]) (y9b7 c) S.length [Item.blk 0] fr' ⟨S.set n (flat iA g),H⟩ (fin S.length [] K):=fun fr' h3 h1=>stop h1 hK fr' _ h3 (by rw [List.take_of_length_le]; simp)
  clear stop
  by_cases hja:a < j
  case neg =>
    have hjl:¬((a:Int) < (j:Int)):=by omega
    simp only [A_,simprocAttr,ne_eq,(Uzl _).1,hjl,hwi]
    refine fin1 _ (by simp [keep,zm]) ?_
    rw [hjv]
    cases j with
    | zero=>rfl
    | succ j=>rw [Sort.insInner,if_neg (by simp; omega)]
  obtain ⟨k,rfl⟩:∃k,j=k + 1:=⟨j - 1,by omega⟩
  have hjl:((a:Int) < ((k + 1:Nat):Int)):=by omega
  have hwk:IntKind.i64.wrap (((k + 1:Nat):Int) - 1)=((k:Nat):Int):=by rw [wrap_i64 (by omega) (by omega)]; omega
  have x1:∀kk:IntKind,indexAddrL (.sl 1) (.row (.stk n) 0 d.size d.size) (.s (.int kk ((k + 1:Nat):Int)))=some (.ptr (.stk n) (k + 1)):=fun kk=>ixi (by omega)
  have x2:∀kk:IntKind,indexAddrL (.sl 1) (.row (.stk n) 0 d.size d.size) (.s (.int kk (k:Int)))=some (.ptr (.stk n) k):=fun kk=>ixi (by omega)
  have r1:=ird (H:=H) hSg (i:=k + 1) (by omega)
  have r2:=ird (H:=H) hSg (i:=k) (by omega)
  simp only [A_,simprocAttr,ne_eq,(Uzl _).1,hjl,hwk,x1,x2,r1,r2]
  refine h0 _ _ _ _ _ ?_
  cases hlk:ltI g[k + 1]! g[k]! with
  | false =>
    simp only [A_,simprocAttr,ne_eq,(Uzl _).1,hwi]
    refine fin1 _ (by simp [keep,zm]) ?_
    rw [hjv,Sort.insInner,hlk,if_neg (by simp)]
  | true =>
    have w1:=iwr (H:=H) (x:=g[k]!) hSg (i:=k + 1) (by omega)
    have hSg2:(S.set n (flat iA (g.setIfInBounds (k + 1) g[k]!)))[n]? = some (flat iA (g.setIfInBounds (k + 1) g[k]!)):=sset hS
    have w2:=iwr (H:=H) (x:=g[k + 1]!) hSg2 (i:=k) (by simp; omega)
    rw [List.set_set] at w1 w2
    simp only [A_,simprocAttr,ne_eq,(Uzl _).1,hwk,x1,x2,r1,r2,w1,w2]
    refine ih2 (k,Sort.swp g (k + 1) k) _ _ _ (by dsimp only; omega) ⟨by dsimp only; omega,by rw [swp_size]; exact hgs,?_⟩ (by simp [keep,zm]) (by rw [List.take_of_length_le]; rfl; simp) rfl
    dsimp only
    rw [hjv,Sort.insInner,hlk,if_pos (by simp; omega)]
end Go.AM
namespace Go.AM
open Go
open AV renaming undef → uu
set_option maxRecDepth 20000
def SiftS (C:CallW) (f:FuncId):Prop:=∀(n:Nat) (d:Array Int) (lo hi first:Nat) S H (K:AV→St→Prop),S[n]? = some (flat iA d)→first + hi≤d.size→lo≤2305843009213693952→d.size≤2305843009213693952→K (.tup []) ⟨S.set n (flat iA (Sort.siftDown ltI hi first lo d)),H⟩→C (.fn f) [.row (.stk n) 0 d.size d.size,.s (.int .i64 lo),.s (.int .i64 hi),.s (.int .i64 first)] ⟨S,H⟩ K
set_option maxHeartbeats 16000000 in
theorem siftDown_spec {C:CallW} (hC:LeC C C) (P:Program) {c:Nat→FuncId} (h0:LessS C (c 0)):∀(n:Nat) (d:Array Int) (lo hi first:Nat) S H (K:AV→St→Prop),S[n]? = some (flat iA d)→first + hi≤d.size→lo≤2305843009213693952→d.size≤2305843009213693952→K (.tup []) ⟨S.set n (flat iA (Sort.siftDown ltI hi first lo d)),H⟩→runL C P (Cz1t c) [.row (.stk n) 0 d.size d.size,.s (.int .i64 lo),.s (.int .i64 hi),.s (.int .i64 first)] ⟨S,H⟩ K:=by
  intro n d lo hi first S H K hS hfh hlo hdl hK
  have hn:=slt hS
  generalize hX:Sort.siftDown ltI hi first lo d=X at hK
  simp only [Cz1t,A_,simprocAttr,ne_eq,(Uzh _).1]
  refine loop_rule hC (α:=Nat×Array Int) (fun x=>hi - x.1) (fun x=>[.row (.stk n) 0 d.size d.size,.undef,.s (.int .i64 hi),.s (.int .i64 first),uu,uu,uu,uu,.s (.int .i64 x.1),uu,uu,uu,uu,uu,uu,uu,uu,uu,uu,uu,uu,uu,uu,uu,uu,uu,uu,uu,uu,uu,uu,uu,uu,uu,uu,uu,uu,uu,uu,uu,uu,uu,uu,uu,uu,uu,uu,uu,uu,uu,uu,uu,uu,uu,uu,uu,uu,uu,uu,uu,uu,uu,uu,uu,uu,uu,uu,uu,uu,uu,uu,uu,uu,uu,uu,uu]) (fun x=>S.set n (flat iA x.2)) (fun _=>H) (fun x=>x.1≤2305843009213693952∧x.2.size=d.size∧X=Sort.siftDown ltI hi first x.1 x.2) (lo,d) ⟨hlo,rfl,hX.symm⟩ (by simp [keep,zm]) (by rw [sself hS]; simp) rfl (fun x _=>by simp [AV.under,AV.under.go,hn]) ?_
  rintro ⟨r,e⟩ ⟨hr,hes,hinv⟩ ih
  dsimp only at hr hes hinv ih ⊢
  have hSe:(S.set n (flat iA e))[n]? = some (flat iA e):=sset hS
  have hw2:IntKind.i64.wrap (2 * (r:Int))=((2 * r:Nat):Int):=by rw [wrap_i64 (by omega) (by omega)]; omega
  have hw3:IntKind.i64.wrap (((2 * r:Nat):Int) + 1)=((2 * r + 1:Nat):Int):=by rw [wrap_i64 (by omega) (by omega)]; omega
  rw [Sort.siftDown] at hinv
  by_cases hc:2 * r + 1≥hi
  · have hc':((hi:Int)≤((2 * r + 1:Nat):Int)):=by omega
    rw [dif_pos hc] at hinv
    rw [hinv] at hK
    simp only [A_,simprocAttr,ne_eq,(Uzh _).1,hw2,hw3,hc']
    exact hK
  have hc':¬((hi:Int)≤((2 * r + 1:Nat):Int)):=by omega
  rw [dif_neg hc] at hinv
  have hw4:IntKind.i64.wrap (((2 * r + 1:Nat):Int) + 1)=((2 * r + 2:Nat):Int):=by rw [wrap_i64 (by omega) (by omega)]; omega
  have a0:IntKind.i64.wrap ((first:Int) + (r:Int))=((first + r:Nat):Int):=by rw [wrap_i64 (by omega) (by omega)]; omega
  have a1:IntKind.i64.wrap ((first:Int) + ((2 * r + 1:Nat):Int))=((first + (2 * r + 1):Nat):Int):=by rw [wrap_i64 (by omega) (by omega)]; omega
  have a2:IntKind.i64.wrap ((first:Int) + ((2 * r + 2:Nat):Int))=((first + (2 * r + 2):Nat):Int):=by rw [wrap_i64 (by omega) (by omega)]; omega
  have a3:IntKind.i64.wrap (((first + (2 * r + 1):Nat):Int) + 1)=((first + (2 * r + 2):Nat):Int):=by rw [wrap_i64 (by omega) (by omega)]; omega
  have x0:∀kk:IntKind,indexAddrL (.sl 1) (.row (.stk n) 0 d.size d.size) (.s (.int kk ((first + r:Nat):Int)))=some (.ptr (.stk n) (first + r)):=fun kk=>ixi (by omega)
  have x1:∀kk:IntKind,indexAddrL (.sl 1) (.row (.stk n) 0 d.size d.size) (.s (.int kk ((first + (2 * r + 1):Nat):Int)))=some (.ptr (.stk n) (first + (2 * r + 1))):=fun kk=>ixi (by omega)
  have r0:=ird (H:=H) hSe (i:=first + r) (by omega)
  have r1:=ird (H:=H) hSe (i:=first + (2 * r + 1)) (by omega)
  by_cases hc2:2 * r + 1 + 1 < hi
  · have hc2':(((2 * r + 2:Nat):Int) < (hi:Int)):=by omega
    have x2:∀kk:IntKind,indexAddrL (.sl 1) (.row (.stk n) 0 d.size d.size) (.s (.int kk ((first + (2 * r + 2):Nat):Int)))=some (.ptr (.stk n) (first + (2 * r + 2))):=fun kk=>ixi (by omega)
    have r2:=ird (H:=H) hSe (i:=first + (2 * r + 2)) (by omega)
    simp only [A_,simprocAttr,ne_eq,(Uzh _).1,hw2,hw3,hw4,hc',hc2',a0,a1,a2,a3,x0,x1,x2,r0,r1,r2]
    refine h0 _ _ _ _ _ ?_
    cases hl1:ltI e[first + (2 * r + 1)]! e[first + (2 * r + 2)]! with
    | true =>
      rw [if_pos (by rw [Bool.and_eq_true]; exact ⟨decide_eq_true hc2,hl1⟩)] at hinv
      simp only [A_,simprocAttr,ne_eq,(Uzh _).1,hw2,hw3,hw4,a0,a1,a2,a3,x0,x1,x2,r0,r1,r2]
      refine h0 _ _ _ _ _ ?_
      cases hl2:ltI e[first + r]! e[first + (2 * r + 2)]! with
      | false =>
        rw [hl2,if_pos (by rfl)] at hinv
        rw [hinv] at hK
        simp only [A_,simprocAttr,ne_eq,(Uzh _).1]
        exact hK
      | true =>
        rw [hl2,if_neg (by simp),dif_pos hc2] at hinv
        have w1:=iwr (H:=H) (x:=e[first + (2 * r + 2)]!) hSe (i:=first + r) (by omega)
        have hS2:(S.set n (flat iA (e.setIfInBounds (first + r) e[first + (2 * r + 2)]!)))[n]? = some (flat iA (e.setIfInBounds (first + r) e[first + (2 * r + 2)]!)):=sset hS
        have w2:=iwr (H:=H) (x:=e[first + r]!) hS2 (i:=first + (2 * r + 2)) (by simp; omega)
        rw [List.set_set] at w1 w2
        simp only [A_,simprocAttr,ne_eq,(Uzh _).1,hw2,hw3,hw4,a0,a1,a2,a3,x0,x1,x2,r0,r1,r2,w1,w2]
        exact ih (2 * r + 2,Sort.swp e (first + r) (first + (2 * r + 2))) _ _ _ (by dsimp only; omega) ⟨by dsimp only; omega,by rw [swp_size]; exact hes,hinv⟩ (by simp [keep,zm]) (by rw [List.take_of_length_le]; rfl; simp) rfl
    | false =>
      rw [if_neg (by rw [Bool.and_eq_true]; rintro ⟨_,h⟩; rw [show first + (2 * r + 1) + 1=first + (2 * r + 2) from rfl,hl1] at h; cases h)] at hinv
      simp only [A_,simprocAttr,ne_eq,(Uzh _).1,hw2,hw3,hw4,a0,a1,a2,a3,x0,x1,x2,r0,r1,r2]
      refine h0 _ _ _ _ _ ?_
      cases hl2:ltI e[first + r]! e[first + (2 * r + 1)]! with
      | false =>
        rw [hl2,if_pos (by rfl)] at hinv
        rw [hinv] at hK
        simp only [A_,simprocAttr,ne_eq,(Uzh _).1]
        exact hK
      | true =>
        rw [hl2,if_neg (by simp)] at hinv
        have w1:=iwr (H:=H) (x:=e[first + (2 * r + 1)]!) hSe (i:=first + r) (by omega)
        have hS2:(S.set n (flat iA (e.setIfInBounds (first + r) e[first + (2 * r + 1)]!)))[n]? = some (flat iA (e.setIfInBounds (first + r) e[first + (2 * r + 1)]!)):=sset hS
        have w2:=iwr (H:=H) (x:=e[first + r]!) hS2 (i:=first + (2 * r + 1)) (by simp; omega)
        rw [List.set_set] at w1 w2
        simp only [A_,simprocAttr,ne_eq,(Uzh _).1,hw2,hw3,hw4,a0,a1,a2,a3,x0,x1,x2,r0,r1,r2,w1,w2]
        exact ih (2 * r + 1,Sort.swp e (first + r) (first + (2 * r + 1))) _ _ _ (by dsimp only; omega) ⟨by dsimp only; omega,by rw [swp_size]; exact hes,hinv⟩ (by simp [keep,zm]) (by rw [List.take_of_length_le]; rfl; simp) rfl
  · have hc2':¬(((2 * r + 2:Nat):Int) < (hi:Int)):=by omega
    rw [if_neg (by rw [Bool.and_eq_true]; rintro ⟨h,_⟩; exact hc2 (of_decide_eq_true h))] at hinv
    simp only [A_,simprocAttr,ne_eq,(Uzh _).1,hw2,hw3,hw4,hc',hc2',a0,a1,a2,a3,x0,x1,r0,r1]
    refine h0 _ _ _ _ _ ?_
    cases hl2:ltI e[first + r]! e[first + (2 * r + 1)]! with
    | false =>
      rw [hl2,if_pos (by rfl)] at hinv
      rw [hinv] at hK
      simp only [A_,simprocAttr,ne_eq,(Uzh _).1]
      exact hK
    | true =>
      rw [hl2,if_neg (by simp)] at hinv
      have w1:=iwr (H:=H) (x:=e[first + (2 * r + 1)]!) hSe (i:=first + r) (by omega)
      have hS2:(S.set n (flat iA (e.setIfInBounds (first + r) e[first + (2 * r + 1)]!)))[n]? = some (flat iA (e.setIfInBounds (first + r) e[first + (2 * r + 1)]!)):=sset hS
      have w2:=iwr (H:=H) (x:=e[first + r]!) hS2 (i:=first + (2 * r + 1)) (by simp; omega)
      rw [List.set_set] at w1 w2
      simp only [A_,simprocAttr,ne_eq,(Uzh _).1,hw2,hw3,hw4,a0,a1,a2,a3,x0,x1,r0,r1,w1,w2]
      exact ih (2 * r + 1,Sort.swp e (first + r) (first + (2 * r + 1))) _ _ _ (by dsimp only; omega) ⟨by dsimp only; omega,by rw [swp_size]; exact hes,hinv⟩ (by simp [keep,zm]) (by rw [List.take_of_length_le]; rfl; simp) rfl
end Go.AM
namespace Go.AM
open Go
open AV renaming undef → uu
set_option maxRecDepth 20000
theorem siftDown_size (hi first:Nat):∀(m root:Nat) (d:Array Int),hi - root≤m→(Sort.siftDown ltI hi first root d).size=d.size:=by
  intro m
  induction m with
  | zero=>intro root d h; rw [Sort.siftDown,dif_pos (by omega)]
  | succ m ih =>
    intro root d h
    rw [Sort.siftDown]
    by_cases hc:2 * root + 1≥hi
    · rw [dif_pos hc]
    rw [dif_neg hc]
    split
    · split
      · rfl
      · split
        · rw [ih _ _ (by omega),swp_size]
        · rfl
    · split
      · rfl
      · rw [ih _ _ (by omega),swp_size]
def SrtT (C:CallW) (f:FuncId) (X:Array Int→Nat→Nat→Array Int):Prop:=∀(n:Nat) (d:Array Int) (a b:Nat) S H (K:AV→St→Prop),S[n]? = some (flat iA d)→a < b→b≤d.size→d.size≤2305843009213693952→K (.tup []) ⟨S.set n (flat iA (X d a b)),H⟩→C (.fn f) [.row (.stk n) 0 d.size d.size,.s (.int .i64 a),.s (.int .i64 b)] ⟨S,H⟩ K
set_option maxHeartbeats 16000000 in
theorem reverseRange_spec {C:CallW} (hC:LeC C C) (P:Program):∀(n:Nat) (d:Array Int) (a b:Nat) S H (K:AV→St→Prop),S[n]? = some (flat iA d)→a < b→b≤d.size→d.size≤2305843009213693952→K (.tup []) ⟨S.set n (flat iA (Sort.reverseRange d a b)),H⟩→runL C P Cz1j [.row (.stk n) 0 d.size d.size,.s (.int .i64 a),.s (.int .i64 b)] ⟨S,H⟩ K:=by
  intro n d a b S H K hS hab hbd hdl hK
  have hn:=slt hS
  unfold Sort.reverseRange at hK
  generalize hX:Sort.reverseLoop a (b - 1) d=X at hK
  have hw0:IntKind.i64.wrap ((b:Int) - 1)=((b - 1:Nat):Int):=by rw [wrap_i64 (by omega) (by omega)]; omega
  simp only [Cz1j,A_,simprocAttr,ne_eq,Uz1i.1,hw0]
  refine loop_rule hC (α:=Nat×Nat×Array Int) (fun x=>x.2.1 - x.1) (fun x=>[.row (.stk n) 0 d.size d.size,uu,uu,uu,uu,uu,.s (.int .i64 x.1),.s (.int .i64 x.2.1),uu,uu,uu,uu,uu,uu,uu,uu,uu,uu,uu,uu,uu,uu,uu,uu,uu,uu,uu,uu,uu,uu,uu,uu]) (fun x=>S.set n (flat iA x.2.2)) (fun _=>H) (fun x=>x.1≤d.size∧x.2.1 < d.size∧x.2.2.size=d.size∧X=Sort.reverseLoop x.1 x.2.1 x.2.2) (a,b - 1,d) ⟨by dsimp only; omega,by dsimp only; omega,rfl,hX.symm⟩ (by simp [keep,zm]) (by rw [sself hS]; simp) rfl (fun x _=>by simp [AV.under,AV.under.go,hn]) ?_
  rintro ⟨i,j,e⟩ ⟨hi,hj,hes,hinv⟩ ih
  dsimp only at hi hj hes hinv ih ⊢
  have hSe:(S.set n (flat iA e))[n]? = some (flat iA e):=sset hS
  rw [Sort.reverseLoop] at hinv
  by_cases hij:i < j
  case neg =>
    have h':¬((i:Int) < (j:Int)):=by omega
    rw [if_neg hij] at hinv
    rw [hinv] at hK
    simp only [A_,simprocAttr,ne_eq,Uz1i.1,h']
    exact hK
  have h':((i:Int) < (j:Int)):=by omega
  rw [if_pos hij] at hinv
  have hw1:IntKind.i64.wrap ((i:Int) + 1)=((i + 1:Nat):Int):=by rw [wrap_i64 (by omega) (by omega)]; omega
  have hw2:IntKind.i64.wrap ((j:Int) - 1)=((j - 1:Nat):Int):=by rw [wrap_i64 (by omega) (by omega)]; omega
  have x1:∀kk:IntKind,indexAddrL (.sl 1) (.row (.stk n) 0 d.size d.size) (.s (.int kk (i:Int)))=some (.ptr (.stk n) i):=fun kk=>ixi (by omega)
  have x2:∀kk:IntKind,indexAddrL (.sl 1) (.row (.stk n) 0 d.size d.size) (.s (.int kk (j:Int)))=some (.ptr (.stk n) j):=fun kk=>ixi (by omega)
  have r1:=ird (H:=H) hSe (i:=i) (by omega)
  have r2:=ird (H:=H) hSe (i:=j) (by omega)
  have w1:=iwr (H:=H) (x:=e[j]!) hSe (i:=i) (by omega)
  have hS2:(S.set n (flat iA (e.setIfInBounds i e[j]!)))[n]? = some (flat iA (e.setIfInBounds i e[j]!)):=sset hS
  have w2:=iwr (H:=H) (x:=e[i]!) hS2 (i:=j) (by simp; omega)
  rw [List.set_set] at w1 w2
  simp only [A_,simprocAttr,ne_eq,Uz1i.1,h',x1,x2,r1,r2,w1,w2,hw1,hw2]
  exact ih (i + 1,j - 1,Sort.swp e i j) _ _ _ (by dsimp only; omega) ⟨by dsimp only; omega,by dsimp only; omega,by rw [swp_size]; exact hes,hinv⟩ (by simp [keep,zm]) (by rw [List.take_of_length_le]; rfl; simp) rfl
set_option maxHeartbeats 16000000 in
theorem heapSort_spec {C:CallW} (hC:LeC C C) (P:Program) {c:Nat→FuncId} (h0:SiftS C (c 0)):∀(n:Nat) (d:Array Int) (a b:Nat) S H (K:AV→St→Prop),S[n]? = some (flat iA d)→a < b→b≤d.size→d.size≤2305843009213693952→K (.tup []) ⟨S.set n (flat iA (Sort.heapSort ltI d a b)),H⟩→runL C P (Cz1u c) [.row (.stk n) 0 d.size d.size,.s (.int .i64 a),.s (.int .i64 b)] ⟨S,H⟩ K:=by
  intro n d a b S H K hS hab hbd hdl hK
  have hn:=slt hS
  unfold Sort.heapSort at hK
  have hw0:IntKind.i64.wrap ((b:Int) - (a:Int))=((b - a:Nat):Int):=by rw [wrap_i64 (by omega) (by omega)]; omega
  have hw1:IntKind.i64.wrap (((b - a:Nat):Int) - 1)=((b - a - 1:Nat):Int):=by rw [wrap_i64 (by omega) (by omega)]; omega
  have hw2:IntKind.i64.wrap (((b - a - 1:Nat):Int).tdiv 2)=((((b - a - 1) / 2 + 1:Nat):Int) - 1):=by
    rw [show ((b - a - 1:Nat):Int).tdiv 2=(((b - a - 1) / 2:Nat):Int) from rfl,wrap_i64 (by omega) (by omega)]; omega
  generalize hhi:b - a=hi at *
  generalize hk0:(hi - 1) / 2 + 1=k0 at *
  simp only [Cz1u,A_,simprocAttr,ne_eq,(Uzx _).1,hw0,hw1,hw2]
  have hhs:a + hi≤d.size:=by omega
  have hk1:k0≤hi:=by omega
  refine loop_rule hC (α:=Nat×Array Int) (fun x=>x.1) (fun x=>[.row (.stk n) 0 d.size d.size,uu,uu,uu,uu,uu,.s (.int .i64 a),.s (.int .i64 0),.s (.int .i64 hi),.s (.int .i64 ((x.1:Int) - 1)),uu,uu,uu,uu,uu,uu,uu,uu,uu,uu,uu,uu,uu,uu,uu,uu,uu,uu,uu,uu,uu,uu,uu,uu,uu,uu,uu,uu,uu,uu,uu,uu,uu,uu,uu,uu,uu,uu,uu,uu,uu,uu,uu,uu,uu,uu]) (fun x=>S.set n (flat iA x.2)) (fun _=>H) (fun x=>x.1≤k0∧x.2.size=d.size∧Sort.heapBuild ltI hi a k0 d=Sort.heapBuild ltI hi a x.1 x.2) (k0,d) ⟨Nat.le_refl _,rfl,rfl⟩ (by simp [keep,zm]) (by rw [sself hS]; simp) rfl (fun x _=>by simp [AV.under,AV.under.go,hn]) ?_
  rintro ⟨k,e⟩ ⟨hk,hes,hinv⟩ ih
  dsimp only at hk hes hinv ih ⊢
  have hSe:(S.set n (flat iA e))[n]? = some (flat iA e):=sset hS
  cases k with
  | succ k =>
    have h':((0:Int)≤((k + 1:Nat):Int) - 1)=True:=eq_true (by omega)
    have e1:(((k + 1:Nat):Int) - 1)=((k:Nat):Int):=by omega
    have h'':((0:Int)≤(k:Int))=True:=eq_true (by omega)
    have e2:IntKind.i64.wrap ((k:Int) - 1)=(k:Int) - 1:=wrap_i64 (by omega) (by omega)
    simp only [A_,simprocAttr,ne_eq,(Uzx _).1,h',e1,h'']
    rw [show d.size=e.size from hes.symm]
    refine h0 n e k hi a _ _ _ hSe (by omega) (by omega) (by omega) ?_
    rw [List.set_set]
    simp only [A_,simprocAttr,ne_eq,(Uzx _).1,e2]
    refine ih (k,Sort.siftDown ltI hi a k e) _ _ _ (by dsimp only; omega) ⟨by dsimp only; omega,by rw [siftDown_size hi a _ _ _ (Nat.le_refl _)]; exact hes,by rw [hinv]; rfl⟩ (by simp [keep,zm,hes]) (by rw [List.take_of_length_le]; simp) rfl
  | zero =>
    have h':((0:Int)≤((0:Nat):Int) - 1)=False:=eq_false (by omega)
    have h'':((0:Int)≤0 - 1)=False:=eq_false (by omega)
    have h3:((0:Int)≤-1)=False:=eq_false (by omega)
    rw [hinv] at hK
    simp only [Sort.heapBuild] at hK
    have hw3:IntKind.i64.wrap ((hi:Int) - 1)=((hi:Int) - 1):=wrap_i64 (by omega) (by omega)
    simp only [A_,simprocAttr,ne_eq,(Uzx _).1,h',h'',h3,hw3]
    clear ih hinv
    generalize hX:Sort.heapPop ltI a hi e=X at hK
    refine loop_rule hC (α:=Nat×Array Int) (fun x=>x.1) (fun x=>[.row (.stk n) 0 d.size d.size,uu,uu,uu,uu,uu,.s (.int .i64 a),.s (.int .i64 0),uu,uu,.s (.int .i64 ((x.1:Int) - 1)),uu,uu,uu,uu,uu,uu,uu,uu,uu,uu,uu,uu,uu,uu,uu,uu,uu,uu,uu,uu,uu,uu,uu,uu,uu,uu,uu,uu,uu,uu,uu,uu,uu,uu,uu,uu,uu,uu,uu,uu,uu,uu,uu,uu,uu]) (fun x=>S.set n (flat iA x.2)) (fun _=>H) (fun x=>x.1≤hi∧x.2.size=d.size∧X=Sort.heapPop ltI a x.1 x.2) (hi,e) ⟨Nat.le_refl _,hes,hX.symm⟩ (by simp [keep,zm]) (by rw [List.take_of_length_le]; simp) rfl (fun x _=>by simp [AV.under,AV.under.go,hn]) ?_
    rintro ⟨k,g⟩ ⟨hk2,hgs,hinv⟩ ih
    dsimp only at hk2 hgs hinv ih ⊢
    have hSg:(S.set n (flat iA g))[n]? = some (flat iA g):=sset hS
    cases k with
    | zero =>
      rw [hinv] at hK
      simp only [A_,simprocAttr,ne_eq,(Uzx _).1,h',h'',h3]
      exact hK
    | succ k =>
      have h':((0:Int)≤((k + 1:Nat):Int) - 1)=True:=eq_true (by omega)
      have e1:(((k + 1:Nat):Int) - 1)=((k:Nat):Int):=by omega
      have h'':((0:Int)≤(k:Int))=True:=eq_true (by omega)
      have e2:IntKind.i64.wrap ((k:Int) - 1)=(k:Int) - 1:=wrap_i64 (by omega) (by omega)
      have e3:IntKind.i64.wrap ((a:Int) + (k:Int))=((a + k:Nat):Int):=by rw [wrap_i64 (by omega) (by omega)]; omega
      have x1:∀kk:IntKind,indexAddrL (.sl 1) (.row (.stk n) 0 d.size d.size) (.s (.int kk (a:Int)))=some (.ptr (.stk n) a):=fun kk=>ixi (by omega)
      have x2:∀kk:IntKind,indexAddrL (.sl 1) (.row (.stk n) 0 d.size d.size) (.s (.int kk ((a + k:Nat):Int)))=some (.ptr (.stk n) (a + k)):=fun kk=>ixi (by omega)
      have r1:=ird (H:=H) hSg (i:=a) (by omega)
      have r2:=ird (H:=H) hSg (i:=a + k) (by omega)
      have w1:=iwr (H:=H) (x:=g[a + k]!) hSg (i:=a) (by omega)
      have hS2:(S.set n (flat iA (g.setIfInBounds a g[a + k]!)))[n]? = some (flat iA (g.setIfInBounds a g[a + k]!)):=sset hS
      have w2:=iwr (H:=H) (x:=g[a]!) hS2 (i:=a + k) (by simp; omega)
      rw [List.set_set] at w1 w2
      simp only [A_,simprocAttr,ne_eq,(Uzx _).1,h',e1,h'',e3,x1,x2,r1,r2,w1,w2]
      rw [show d.size=(Sort.swp g a (a + k)).size by rw [swp_size]; exact hgs.symm]
      have hS3:(S.set n (flat iA (Sort.swp g a (a + k))))[n]? = some (flat iA (Sort.swp g a (a + k))):=sset hS
      refine h0 n (Sort.swp g a (a + k)) 0 k a _ _ _ hS3 (by rw [swp_size]; omega) (by omega) (by rw [swp_size]; omega) ?_
      rw [List.set_set]
      simp only [A_,simprocAttr,ne_eq,(Uzx _).1,e2]
      refine ih (k,Sort.siftDown ltI k a 0 (Sort.swp g a (a + k))) _ _ _ (by dsimp only; omega) ⟨by dsimp only; omega,by rw [siftDown_size k a _ _ _ (Nat.le_refl _),swp_size]; exact hgs,by rw [hinv]; rfl⟩ (by simp [keep,zm,swp_size,hgs]) (by rw [List.take_of_length_le]; simp) rfl
end Go.AM
namespace Go.AM
open Go
set_option maxRecDepth 20000
def swB (k:Nat):List AV:=[.s (.int .i64 k)]
def Ord2S (C:CallW) (f:FuncId):Prop:=∀(n m:Nat) (d:Array Int) (a b sw:Nat) S H (K:AV→St→Prop),S[n]? = some (flat iA d)→S[m]? = some (swB sw)→a < d.size→b < d.size→sw≤1000→K (.tup [.s (.int .i64 (Sort.order2 ltI d a b sw).1),.s (.int .i64 (Sort.order2 ltI d a b sw).2.1)]) ⟨S.set m (swB (Sort.order2 ltI d a b sw).2.2),H⟩→C (.fn f) [.row (.stk n) 0 d.size d.size,.s (.int .i64 a),.s (.int .i64 b),.ptr (.stk m) 0] ⟨S,H⟩ K
def MedS (C:CallW) (f:FuncId):Prop:=∀(n m:Nat) (d:Array Int) (a b c sw:Nat) S H (K:AV→St→Prop),n≠m→S[n]? = some (flat iA d)→S[m]? = some (swB sw)→a < d.size→b < d.size→c < d.size→sw≤900→K (.s (.int .i64 (Sort.median ltI d a b c sw).1)) ⟨S.set m (swB (Sort.median ltI d a b c sw).2),H⟩→C (.fn f) [.row (.stk n) 0 d.size d.size,.s (.int .i64 a),.s (.int .i64 b),.s (.int .i64 c),.ptr (.stk m) 0] ⟨S,H⟩ K
def MadS (C:CallW) (f:FuncId):Prop:=∀(n m:Nat) (d:Array Int) (a sw:Nat) S H (K:AV→St→Prop),n≠m→S[n]? = some (flat iA d)→S[m]? = some (swB sw)→1≤a→a + 1 < d.size→d.size≤2305843009213693952→sw≤900→K (.s (.int .i64 (Sort.medianAdjacent ltI d a sw).1)) ⟨S.set m (swB (Sort.medianAdjacent ltI d a sw).2),H⟩→C (.fn f) [.row (.stk n) 0 d.size d.size,.s (.int .i64 a),.ptr (.stk m) 0] ⟨S,H⟩ K
theorem sw_load {S:List (List AV)} {H:List HObj} {m k:Nat} (h:S[m]? = some (swB k)):load1L false (.ptr (.stk m) 0) ⟨S,H⟩=some (.s (.int .i64 k),⟨S,H⟩):=by
  simp only [load1L,boxOf_stk,h,Option.bind_some,swB]; rfl
theorem sw_store {S:List (List AV)} {H:List HObj} {m k j:Nat} (h:S[m]? = some (swB k)):storeL 1 (.ptr (.stk m) 0) (.s (.int .i64 j)) ⟨S,H⟩=some ⟨S.set m (swB j),H⟩:=by
  simp only [storeL,AV.cells,AV.fit,writeCells,boxOf_stk,h,Option.bind_some,mayHold,AV.under.go,AV.under,swB]; rfl
set_option maxHeartbeats 16000000 in
theorem order2_spec {C:CallW} (P:Program) {c:Nat→FuncId} (h0:LessS C (c 0)):∀(n m:Nat) (d:Array Int) (a b sw:Nat) S H (K:AV→St→Prop),S[n]? = some (flat iA d)→S[m]? = some (swB sw)→a < d.size→b < d.size→sw≤1000→K (.tup [.s (.int .i64 (Sort.order2 ltI d a b sw).1),.s (.int .i64 (Sort.order2 ltI d a b sw).2.1)]) ⟨S.set m (swB (Sort.order2 ltI d a b sw).2.2),H⟩→runL C P (Cz24 c) [.row (.stk n) 0 d.size d.size,.s (.int .i64 a),.s (.int .i64 b),.ptr (.stk m) 0] ⟨S,H⟩ K:=by
  intro n m d a b sw S H K hS hm ha hb hs hK
  unfold Sort.order2 at hK
  have x1:∀kk:IntKind,indexAddrL (.sl 1) (.row (.stk n) 0 d.size d.size) (.s (.int kk (a:Int)))=some (.ptr (.stk n) a):=fun kk=>ixi (by omega)
  have x2:∀kk:IntKind,indexAddrL (.sl 1) (.row (.stk n) 0 d.size d.size) (.s (.int kk (b:Int)))=some (.ptr (.stk n) b):=fun kk=>ixi (by omega)
  have r1:=ird (H:=H) hS (i:=a) (by omega)
  have r2:=ird (H:=H) hS (i:=b) (by omega)
  simp only [Cz24,A_,simprocAttr,ne_eq,(Uz23 _).1,x1,x2,r1,r2]
  refine h0 _ _ _ _ _ ?_
  cases hl:ltI d[b]! d[a]! with
  | true =>
    rw [hl,if_pos rfl] at hK
    have l1:=sw_load (H:=H) hm
    have s1:=sw_store (H:=H) (j:=sw + 1) hm
    have w1:IntKind.i64.wrap ((sw:Int) + 1)=((sw + 1:Nat):Int):=by rw [wrap_i64 (by omega) (by omega)]; omega
    simp only [A_,simprocAttr,ne_eq,(Uz23 _).1,l1,s1,w1]
    exact hK
  | false =>
    rw [hl,if_neg (by simp),sself hm] at hK
    simp only [A_,simprocAttr,ne_eq,(Uz23 _).1]
    exact hK
theorem order2_lt {d:Array Int} {a b sw N:Nat} (ha:a < N) (hb:b < N):(Sort.order2 ltI d a b sw).1 < N∧(Sort.order2 ltI d a b sw).2.1 < N∧(Sort.order2 ltI d a b sw).2.2≤sw + 1:=by
  unfold Sort.order2
  split
  · exact ⟨hb,ha,Nat.le_refl _⟩
  · exact ⟨ha,hb,Nat.le_succ _⟩
set_option maxHeartbeats 16000000 in
theorem median_spec {C:CallW} (P:Program) {c:Nat→FuncId} (h0:Ord2S C (c 0)):∀(n m:Nat) (d:Array Int) (a b e sw:Nat) S H (K:AV→St→Prop),n≠m→S[n]? = some (flat iA d)→S[m]? = some (swB sw)→a < d.size→b < d.size→e < d.size→sw≤900→K (.s (.int .i64 (Sort.median ltI d a b e sw).1)) ⟨S.set m (swB (Sort.median ltI d a b e sw).2),H⟩→runL C P (Cz25 c) [.row (.stk n) 0 d.size d.size,.s (.int .i64 a),.s (.int .i64 b),.s (.int .i64 e),.ptr (.stk m) 0] ⟨S,H⟩ K:=by
  intro n m d a b e sw S H K hnm hS hm ha hb he hs hK
  unfold Sort.median at hK
  have ng:∀x,(S.set m x)[n]? = some (flat iA d):=fun x=>by rw [List.getElem?_set_ne (fun h=>hnm h.symm)]; exact hS
  simp only [Cz25,A_,simprocAttr,ne_eq,(Uz1m _).1]
  obtain ⟨q1,q2,q3⟩:=order2_lt (d:=d) (sw:=sw) ha hb
  refine h0 n m d a b sw _ _ _ hS hm ha hb (by omega) ?_
  generalize Sort.order2 ltI d a b sw=r1 at hK q1 q2 q3 ⊢
  obtain ⟨p1,b2,s2⟩:=r1
  dsimp only at *
  simp only [A_,simprocAttr,ne_eq,(Uz1m _).1]
  obtain ⟨u1,u2,u3⟩:=order2_lt (d:=d) (sw:=s2) q2 he
  refine h0 n m d b2 e s2 _ _ _ (ng _) (sset hm) q2 he (by omega) ?_
  rw [List.set_set]
  generalize Sort.order2 ltI d b2 e s2=r2 at hK u1 u2 u3 ⊢
  obtain ⟨y1,y2,y3⟩:=r2
  dsimp only at *
  simp only [A_,simprocAttr,ne_eq,(Uz1m _).1]
  refine h0 n m d p1 y1 y3 _ _ _ (ng _) (sset hm) q1 u1 (by omega) ?_
  rw [List.set_set]
  simp only [A_,simprocAttr,ne_eq,(Uz1m _).1]
  exact hK
theorem medianAdjacent_spec {C:CallW} (P:Program) {c:Nat→FuncId} (h0:MedS C (c 0)):∀(n m:Nat) (d:Array Int) (a sw:Nat) S H (K:AV→St→Prop),n≠m→S[n]? = some (flat iA d)→S[m]? = some (swB sw)→1≤a→a + 1 < d.size→d.size≤2305843009213693952→sw≤900→K (.s (.int .i64 (Sort.medianAdjacent ltI d a sw).1)) ⟨S.set m (swB (Sort.medianAdjacent ltI d a sw).2),H⟩→runL C P (Cz1f c) [.row (.stk n) 0 d.size d.size,.s (.int .i64 a),.ptr (.stk m) 0] ⟨S,H⟩ K:=by
  intro n m d a sw S H K hnm hS hm ha hb hd hs hK
  have w1:IntKind.i64.wrap ((a:Int) + 1)=((a + 1:Nat):Int):=by rw [wrap_i64 (by omega) (by omega)]; omega
  have w2:IntKind.i64.wrap ((a:Int) - 1)=((a - 1:Nat):Int):=by rw [wrap_i64 (by omega) (by omega)]; omega
  simp only [Cz1f,A_,simprocAttr,ne_eq,(Uz1z _).1,w1,w2]
  refine h0 n m d (a - 1) a (a + 1) sw _ _ _ hnm hS hm (by omega) (by omega) hb hs ?_
  simp only [A_,simprocAttr,ne_eq,(Uz1z _).1]
  exact hK
end Go.AM
namespace Go.AM
open Go
set_option maxRecDepth 20000
def hI:Sort.Hint→Int
  | .unknown=>0
  | .increasing=>1
  | .decreasing=>2
def ChpS (C:CallW) (f:FuncId):Prop:=∀(n:Nat) (d:Array Int) (a b:Nat) S H (K:AV→St→Prop),S[n]? = some (flat iA d)→a < b→b≤d.size→d.size≤2305843009213693952→K (.tup [.s (.int .i64 (Sort.choosePivot ltI d a b).1),.s (.int .i64 (hI (Sort.choosePivot ltI d a b).2))]) ⟨S,H⟩→C (.fn f) [.row (.stk n) 0 d.size d.size,.s (.int .i64 a),.s (.int .i64 b)] ⟨S,H⟩ K
theorem sapp {S:List (List AV)} {x y:List AV}:(S ++ [x]).set S.length y=S ++ [y]:=by simp
theorem sappg {S:List (List AV)} {n:Nat} {x:List AV} {d:Array Int} (h:S[n]? = some (flat iA d)):(S ++ [x])[n]? = some (flat iA d):=by rw [List.getElem?_append_left (slt h)]; exact h
theorem sappl {S:List (List AV)} {x:List AV}:(S ++ [x])[S.length]? = some x:=by simp
theorem order2_sw {d:Array Int} {a b sw:Nat}:(Sort.order2 ltI d a b sw).2.2≤sw + 1:=by
  unfold Sort.order2
  split
  · exact Nat.le_refl _
  · exact Nat.le_succ _
theorem median_sw {d:Array Int} {a b c sw:Nat}:(Sort.median ltI d a b c sw).2≤sw + 3:=by
  unfold Sort.median
  dsimp only
  have q1:=order2_sw (d:=d) (a:=a) (b:=b) (sw:=sw)
  have q2:=order2_sw (d:=d) (a:=(Sort.order2 ltI d a b sw).2.1) (b:=c) (sw:=(Sort.order2 ltI d a b sw).2.2)
  have q3:=order2_sw (d:=d) (a:=(Sort.order2 ltI d a b sw).1) (b:=(Sort.order2 ltI d (Sort.order2 ltI d a b sw).2.1 c (Sort.order2 ltI d a b sw).2.2).1) (sw:=(Sort.order2 ltI d (Sort.order2 ltI d a b sw).2.1 c (Sort.order2 ltI d a b sw).2.2).2.2)
  omega
theorem median_lt {d:Array Int} {a b c sw N:Nat} (ha:a < N) (hb:b < N) (hc:c < N):(Sort.median ltI d a b c sw).1 < N:=by
  unfold Sort.median
  dsimp only
  obtain ⟨q1,q2,_⟩:=order2_lt (d:=d) (sw:=sw) ha hb
  obtain ⟨u1,u2,_⟩:=order2_lt (d:=d) (sw:=(Sort.order2 ltI d a b sw).2.2) q2 hc
  exact (order2_lt q1 u1).2.1
set_option maxHeartbeats 16000000 in
theorem choosePivot_spec {C:CallW} (P:Program) {c:Nat→FuncId} (h0:MadS C (c 0)) (h1:MedS C (c 1)):∀(n:Nat) (d:Array Int) (a b:Nat) S H (K:AV→St→Prop),S[n]? = some (flat iA d)→a < b→b≤d.size→d.size≤2305843009213693952→K (.tup [.s (.int .i64 (Sort.choosePivot ltI d a b).1),.s (.int .i64 (hI (Sort.choosePivot ltI d a b).2))]) ⟨S,H⟩→runL C P (Cz12 c) [.row (.stk n) 0 d.size d.size,.s (.int .i64 a),.s (.int .i64 b)] ⟨S,H⟩ K:=by
  intro n d a b S H K hS hab hb hd hK
  have hn:=slt hS
  have hnm:n≠S.length:=by omega
  have hw0:IntKind.i64.wrap ((b:Int) - (a:Int))=((b - a:Nat):Int):=by rw [wrap_i64 (by omega) (by omega)]; omega
  have hq:IntKind.i64.wrap (((b - a:Nat):Int).tdiv 4)=(((b - a) / 4:Nat):Int):=by
    rw [show ((b - a:Nat):Int).tdiv 4=(((b - a) / 4:Nat):Int) from rfl,wrap_i64 (by omega) (by omega)]
  unfold Sort.choosePivot at hK
  dsimp only at hK
  have hlb:b - a + a=b:=by omega
  generalize hl:b - a=l at *
  have hq4:l / 4 * 4≤l:=Nat.div_mul_le_self l 4
  have hq8:8≤l→2≤l / 4:=fun h=>by omega
  generalize hqq:l / 4=q at *
  have hm1:IntKind.i64.wrap ((q:Int) * 1)=((q * 1:Nat):Int):=by rw [wrap_i64 (by omega) (by omega)]; omega
  have hm2:IntKind.i64.wrap ((q:Int) * 2)=((q * 2:Nat):Int):=by rw [wrap_i64 (by omega) (by omega)]; omega
  have hm3:IntKind.i64.wrap ((q:Int) * 3)=((q * 3:Nat):Int):=by rw [wrap_i64 (by omega) (by omega)]; omega
  have ha1:IntKind.i64.wrap ((a:Int) + ((q * 1:Nat):Int))=((a + q * 1:Nat):Int):=by rw [wrap_i64 (by omega) (by omega)]; omega
  have ha2:IntKind.i64.wrap ((a:Int) + ((q * 2:Nat):Int))=((a + q * 2:Nat):Int):=by rw [wrap_i64 (by omega) (by omega)]; omega
  have ha3:IntKind.i64.wrap ((a:Int) + ((q * 3:Nat):Int))=((a + q * 3:Nat):Int):=by rw [wrap_i64 (by omega) (by omega)]; omega
  have fin1:∀(p sw:Nat) (K2:AV→St→Prop),(K2 (.tup [.s (.int .i64 p),.s (.int .i64 (hI (if sw=0 then .increasing else if sw=12 then .decreasing else .unknown)))]) ⟨S,H⟩→True):=fun _ _ _ _=>trivial
  clear fin1
  have hal:∀x y:Nat,(S ++ [swB x]).set S.length (swB y)=S ++ [swB y]:=fun _ _=>sapp
  by_cases h8:8≤l
  case neg =>
    have h8':¬((8:Int)≤(l:Int)):=by omega
    rw [if_neg h8] at hK
    simp only [Cz12,A_,simprocAttr,ne_eq,(Uze _).1,hw0,hq,hm1,hm2,hm3,ha1,ha2,ha3,h8']
    exact hK
  have h8':((8:Int)≤(l:Int)):=by omega
  rw [if_pos h8] at hK
  have tailK:∀(p sw:Nat),(p,sw)=(p,sw)→True:=fun _ _ _=>trivial
  clear tailK
  by_cases h50:50≤l
  case neg =>
    have h50':¬((50:Int)≤(l:Int)):=by omega
    rw [if_neg h50] at hK
    simp only [Cz12,A_,simprocAttr,ne_eq,(Uze _).1,hw0,hq,hm1,hm2,hm3,ha1,ha2,ha3,h8',h50']
    refine h1 n S.length d _ _ _ 0 _ _ _ hnm (sappg hS) sappl (by omega) (by omega) (by omega) (by omega) ?_
    have hsw:=median_sw (d:=d) (a:=a + q * 1) (b:=a + q * 2) (c:=a + q * 3) (sw:=0)
    generalize Sort.median ltI d (a + q * 1) (a + q * 2) (a + q * 3) 0=r at hK hsw ⊢
    obtain ⟨p,sw⟩:=r
    dsimp only at hK hsw ⊢
    rw [sapp]
    have hl1:=sw_load (S:=S ++ [swB sw]) (H:=H) (m:=S.length) (k:=sw) sappl
    by_cases e0:sw=0
    · subst e0
      simp only [A_,simprocAttr,ne_eq,(Uze _).1,hl1]
      exact hK
    rw [if_neg e0] at hK
    by_cases e12:sw=12
    · subst e12
      simp only [A_,simprocAttr,ne_eq,(Uze _).1,hl1]
      exact hK
    rw [if_neg e12] at hK
    have e0':¬((sw:Int)=0):=by omega
    have e12':¬((sw:Int)=12):=by omega
    simp only [A_,simprocAttr,ne_eq,(Uze _).1,hl1,e0',e12']
    exact hK
  have h50':((50:Int)≤(l:Int)):=by omega
  rw [if_pos h50] at hK
  simp only [Cz12,A_,simprocAttr,ne_eq,(Uze _).1,hw0,hq,hm1,hm2,hm3,ha1,ha2,ha3,h8',h50']
  refine h0 n S.length d _ 0 _ _ _ hnm (sappg hS) sappl (by omega) (by omega) hd (by omega) ?_
  rw [sapp]
  have g1:=median_sw (d:=d) (a:=a + q * 1 - 1) (b:=a + q * 1) (c:=a + q * 1 + 1) (sw:=0)
  have t1:=median_lt (d:=d) (sw:=0) (a:=a + q * 1 - 1) (b:=a + q * 1) (c:=a + q * 1 + 1) (N:=d.size) (by omega) (by omega) (by omega)
  unfold Sort.medianAdjacent at hK ⊢
  generalize Sort.median ltI d (a + q * 1 - 1) (a + q * 1) (a + q * 1 + 1) 0=r1 at hK g1 t1 ⊢
  obtain ⟨i1,s1⟩:=r1
  dsimp only at hK g1 t1 ⊢
  simp only [A_,simprocAttr,ne_eq,(Uze _).1]
  refine h0 n S.length d _ s1 _ _ _ hnm (sappg hS) sappl (by omega) (by omega) hd (by omega) ?_
  rw [sapp]
  have g2:=median_sw (d:=d) (a:=a + q * 2 - 1) (b:=a + q * 2) (c:=a + q * 2 + 1) (sw:=s1)
  have t2:=median_lt (d:=d) (sw:=s1) (a:=a + q * 2 - 1) (b:=a + q * 2) (c:=a + q * 2 + 1) (N:=d.size) (by omega) (by omega) (by omega)
  unfold Sort.medianAdjacent
  generalize Sort.median ltI d (a + q * 2 - 1) (a + q * 2) (a + q * 2 + 1) s1=r2 at hK g2 t2 ⊢
  obtain ⟨i2,s2⟩:=r2
  dsimp only at hK g2 t2 ⊢
  simp only [A_,simprocAttr,ne_eq,(Uze _).1]
  refine h0 n S.length d _ s2 _ _ _ hnm (sappg hS) sappl (by omega) (by omega) hd (by omega) ?_
  rw [sapp]
  have g3:=median_sw (d:=d) (a:=a + q * 3 - 1) (b:=a + q * 3) (c:=a + q * 3 + 1) (sw:=s2)
  have t3:=median_lt (d:=d) (sw:=s2) (a:=a + q * 3 - 1) (b:=a + q * 3) (c:=a + q * 3 + 1) (N:=d.size) (by omega) (by omega) (by omega)
  unfold Sort.medianAdjacent
  generalize Sort.median ltI d (a + q * 3 - 1) (a + q * 3) (a + q * 3 + 1) s2=r3 at hK g3 t3 ⊢
  obtain ⟨i3,s3⟩:=r3
  dsimp only at hK g3 t3 ⊢
  simp only [A_,simprocAttr,ne_eq,(Uze _).1]
  refine h1 n S.length d i1 i2 i3 s3 _ _ _ hnm (sappg hS) sappl t1 t2 t3 (by omega) ?_
  have hsw:=median_sw (d:=d) (a:=i1) (b:=i2) (c:=i3) (sw:=s3)
  generalize Sort.median ltI d i1 i2 i3 s3=r at hK hsw ⊢
  obtain ⟨p,sw⟩:=r
  dsimp only at hK hsw ⊢
  rw [sapp]
  have hl1:=sw_load (S:=S ++ [swB sw]) (H:=H) (m:=S.length) (k:=sw) sappl
  by_cases e0:sw=0
  · subst e0
    simp only [A_,simprocAttr,ne_eq,(Uze _).1,hl1]
    exact hK
  rw [if_neg e0] at hK
  by_cases e12:sw=12
  · subst e12
    simp only [A_,simprocAttr,ne_eq,(Uze _).1,hl1]
    exact hK
  rw [if_neg e12] at hK
  have e0':¬((sw:Int)=0):=by omega
  have e12':¬((sw:Int)=12):=by omega
  simp only [A_,simprocAttr,ne_eq,(Uze _).1,hl1,e0',e12']
  exact hK
end Go.AM
namespace Go.AM
open Go
set_option maxRecDepth 20000
def rB (r:UInt64):List AV:=[.s (.int .u64 r.toNat)]
def XorS (C:CallW) (f:FuncId):Prop:=∀(m:Nat) (r:UInt64) S H (K:AV→St→Prop),S[m]? = some (rB r)→K (.s (.int .u64 (Sort.xorNext r).toNat)) ⟨S.set m (rB (Sort.xorNext r)),H⟩→C (.fn f) [.ptr (.stk m) 0] ⟨S,H⟩ K
theorem rB_load {S:List (List AV)} {H:List HObj} {m:Nat} {r:UInt64} (h:S[m]? = some (rB r)):load1L false (.ptr (.stk m) 0) ⟨S,H⟩=some (.s (.int .u64 r.toNat),⟨S,H⟩):=by
  simp only [load1L,boxOf_stk,h,Option.bind_some,rB]; rfl
theorem rB_store {S:List (List AV)} {H:List HObj} {m:Nat} {r:UInt64} {j:UInt64} (h:S[m]? = some (rB r)):storeL 1 (.ptr (.stk m) 0) (.s (.int .u64 j.toNat)) ⟨S,H⟩=some ⟨S.set m (rB j),H⟩:=by
  simp only [storeL,AV.cells,AV.fit,writeCells,boxOf_stk,h,Option.bind_some,mayHold,AV.under.go,AV.under,rB]; rfl
theorem wu64 {n:Nat} (h:n < 18446744073709551616):IntKind.u64.wrap (n:Int)=(n:Int):=by rw [wrap_u64]; omega
theorem ofNat64 (x:UInt64):BitVec.ofInt IntKind.u64.bits (x.toNat:Int)=x.toBitVec:=by
  apply BitVec.eq_of_toNat_eq
  rw [BitVec.toNat_ofInt]
  have:=x.toNat_lt
  show ((x.toNat:Int) % ((2 ^ 64:Nat):Int)).toNat=x.toNat
  omega
theorem xor64 (x y:UInt64):IntKind.u64.wrap ((BitVec.ofInt IntKind.u64.bits (x.toNat:Int) ^^^ BitVec.ofInt IntKind.u64.bits (y.toNat:Int)).toNat:Int)=((x ^^^ y).toNat:Int):=by
  rw [ofNat64,ofNat64]
  exact wu64 (x ^^^ y).toNat_lt
theorem shl64 (x:UInt64) {k:Nat} (hk:k < 64):IntKind.u64.wrap ((x.toNat:Int) * 2 ^ k)=((x <<< (UInt64.ofNat k)).toNat:Int):=by
  rw [wrap_u64,UInt64.toNat_shiftLeft,Nat.shiftLeft_eq]
  have e:(UInt64.ofNat k).toNat % 64=k:=by rw [UInt64.toNat_ofNat']; omega
  rw [e]
  have:((x.toNat:Int) * 2 ^ k)=((x.toNat * 2 ^ k:Nat):Int):=by push_cast; rfl
  rw [this]
  omega
theorem shr64 (x:UInt64) {k:Nat} (hk:k < 64):(x.toNat / 2 ^ k:Nat)=(x >>> (UInt64.ofNat k)).toNat:=by
  rw [UInt64.toNat_shiftRight,Nat.shiftRight_eq_div_pow]
  have e:(UInt64.ofNat k).toNat % 64=k:=by rw [UInt64.toNat_ofNat']; omega
  rw [e]
theorem xorshift_spec {C:CallW} (P:Program):∀(m:Nat) (r:UInt64) S H (K:AV→St→Prop),S[m]? = some (rB r)→K (.s (.int .u64 (Sort.xorNext r).toNat)) ⟨S.set m (rB (Sort.xorNext r)),H⟩→runL C P Cz2l [.ptr (.stk m) 0] ⟨S,H⟩ K:=by
  intro m r S H K hm hK
  have l1:=rB_load (H:=H) hm
  have m13:min 13 IntKind.u64.bits=13:=rfl
  have m7:min 7 IntKind.u64.bits=7:=rfl
  have m17:min 17 IntKind.u64.bits=17:=rfl
  have s1:∀x:UInt64,IntKind.u64.wrap ((x.toNat:Int) * 8192)=((x <<< 13).toNat:Int):=fun x=>by rw [show (8192:Int)=2 ^ 13 from rfl]; exact shl64 x (k:=13) (by omega)
  have s2:∀x:UInt64,IntKind.u64.wrap ((x.toNat:Int) * 131072)=((x <<< 17).toNat:Int):=fun x=>by rw [show (131072:Int)=2 ^ 17 from rfl]; exact shl64 x (k:=17) (by omega)
  have s3:∀x:UInt64,(x.toNat:Int).fdiv 128=((x >>> 7).toNat:Int):=fun x=>by
    have e:=shr64 x (k:=7) (by omega)
    rw [Int.fdiv_eq_ediv_of_nonneg _ (by omega),show x >>> 7=x >>> UInt64.ofNat 7 from rfl,←e]
    omega
  have w:∀y:UInt64,storeL 1 (.ptr (.stk m) 0) (.s (.int .u64 y.toNat)) ⟨S,H⟩=some ⟨S.set m (rB y),H⟩:=fun y=>rB_store hm
  have w2:∀x y:UInt64,storeL 1 (.ptr (.stk m) 0) (.s (.int .u64 y.toNat)) ⟨S.set m (rB x),H⟩=some ⟨S.set m (rB y),H⟩:=fun x y=>by rw [rB_store (sset hm),List.set_set]
  have l2:∀x:UInt64,load1L false (.ptr (.stk m) 0) ⟨S.set m (rB x),H⟩=some (.s (.int .u64 x.toNat),⟨S.set m (rB x),H⟩):=fun x=>rB_load (sset hm)
  simp only [Cz2l,A_,simprocAttr,ne_eq,Uz41.1,l1,m13,m7,m17,s1,s2,s3,xor64,w,w2,l2]
  exact hK
end Go.AM
namespace Go.AM
open Go
set_option maxRecDepth 20000
theorem bitsLen_iff {x k:Nat} (h1:2 ^ k≤x) (h2:x < 2 ^ (k + 1)):Sort.bitsLen x=k + 1:=by
  have hx:x≠0:=by have:=Nat.two_pow_pos k; omega
  unfold Sort.bitsLen
  rw [if_neg hx,(Nat.log2_eq_iff hx).2 ⟨h1,h2⟩]
theorem bitsLen_shift {x s:Nat} (h:2 ^ s≤x):Sort.bitsLen x=Sort.bitsLen (x / 2 ^ s) + s:=by
  have hp:=Nat.two_pow_pos s
  have hy:x / 2 ^ s≠0:=by
    have:=(Nat.le_div_iff_mul_le hp (x:=1) (y:=x)).2 (by omega)
    omega
  obtain ⟨h1,h2⟩:=(Nat.log2_eq_iff hy).1 rfl
  rw [bitsLen_iff h1 h2]
  generalize (x / 2 ^ s).log2=k at h1 h2
  have g1:=(Nat.le_div_iff_mul_le hp).1 h1
  have g2:=(Nat.div_lt_iff_lt_mul hp).1 h2
  rw [←Nat.pow_add] at g1 g2
  rw [bitsLen_iff (k:=k + s) g1 (by rw [show k + s + 1=k + 1 + s by omega]; exact g2)]
  omega
def LenS (C:CallW) (f:FuncId):Prop:=∀(x:Nat),x < 18446744073709551616→FnS C f [.s (.int .u64 x)] (.s (.int .i64 (Sort.bitsLen x:Nat)))
def tab8:List UInt8:=[0,1,2,2,3,3,3,3,4,4,4,4,4,4,4,4] ++ List.replicate 16 5 ++ List.replicate 32 6 ++ List.replicate 64 7 ++ List.replicate 128 8
theorem tab8_ok:∀k:Nat,k < 256→((tab8.getD k 0).toNat=Sort.bitsLen k):=by decide
theorem tab8_eq:([0,1,2,2,3,3,3,3,4,4,4,4,4,4,4,4,5,5,5,5,5,5,5,5,5,5,5,5,5,5,5,5,6,6,6,6,6,6,6,6,6,6,6,6,6,6,6,6,6,6,6,6,6,6,6,6,6,6,6,6,6,6,6,6,7,7,7,7,7,7,7,7,7,7,7,7,7,7,7,7,7,7,7,7,7,7,7,7,7,7,7,7,7,7,7,7,7,7,7,7,7,7,7,7,7,7,7,7,7,7,7,7,7,7,7,7,7,7,7,7,7,7,7,7,7,7,7,7,8,8,8,8,8,8,8,8,8,8,8,8,8,8,8,8,8,8,8,8,8,8,8,8,8,8,8,8,8,8,8,8,8,8,8,8,8,8,8,8,8,8,8,8,8,8,8,8,8,8,8,8,8,8,8,8,8,8,8,8,8,8,8,8,8,8,8,8,8,8,8,8,8,8,8,8,8,8,8,8,8,8,8,8,8,8,8,8,8,8,8,8,8,8,8,8,8,8,8,8,8,8,8,8,8,8,8,8,8,8,8,8,8,8,8,8,8,8,8,8,8,8,8,8,8,8,8,8]:List UInt8)=tab8:=rfl
theorem tab8_len:tab8.length=256:=by decide
theorem fdn {x m:Nat} (h:0 < m):((x:Int)).fdiv (m:Int)=((x / m:Nat):Int):=by
  rw [Int.fdiv_eq_ediv_of_nonneg _ (by omega)]; omega
theorem w8 {x:Nat} (h:x < 256):IntKind.u8.wrap (x:Int)=(x:Int):=by
  unfold IntKind.wrap
  simp [IntKind.signed,IntKind.bits]
  omega
set_option maxHeartbeats 4000000 in
theorem Len64_spec {C:CallW} (P:Program):∀(x:Nat) S H (K:AV→St→Prop),x < 18446744073709551616→K (.s (.int .i64 (Sort.bitsLen x:Nat))) ⟨S,H⟩→runL C P Cz19 [.s (.int .u64 x)] ⟨S,H⟩ K:=by
  intro x S H K hx hK
  have m32:min 32 IntKind.u64.bits=32:=rfl
  have m16:min 16 IntKind.u64.bits=16:=rfl
  have m8:min 8 IntKind.u64.bits=8:=rfl
  have f32:∀y:Nat,((y:Int)).fdiv 4294967296=((y / 4294967296:Nat):Int):=fun y=>fdn (m:=4294967296) (by omega)
  have f16:∀y:Nat,((y:Int)).fdiv 65536=((y / 65536:Nat):Int):=fun y=>fdn (m:=65536) (by omega)
  have f8:∀y:Nat,((y:Int)).fdiv 256=((y / 256:Nat):Int):=fun y=>fdn (m:=256) (by omega)
  by_cases g32:4294967296≤x
  · have g32':((4294967296:Int)≤((x:Nat):Int)):=by omega
    by_cases g16:65536≤x / 4294967296
    · have g16':((65536:Int)≤((x / 4294967296:Nat):Int)):=by omega
      by_cases g8:256≤x / 4294967296 / 65536
      · have g8':((256:Int)≤((x / 4294967296 / 65536:Nat):Int)):=by omega
        have hy:x / 4294967296 / 65536 / 256 < 256:=by omega
        have hc:=w8 hy
        have ht:=tab8_ok _ hy
        have hw:IntKind.i64.wrap ((56:Int) + ((Sort.bitsLen (x / 4294967296 / 65536 / 256):Nat):Int))=((Sort.bitsLen (x / 4294967296 / 65536 / 256) + 56:Nat):Int):=by rw [←ht]; have:=(tab8.getD (x / 4294967296 / 65536 / 256) 0).toNat_lt; rw [wrap_i64 (by omega) (by omega)]; omega
        have wb:IntKind.i64.wrap ((Sort.bitsLen (x / 4294967296 / 65536 / 256):Nat):Int)=((Sort.bitsLen (x / 4294967296 / 65536 / 256):Nat):Int):=by rw [←ht]; have:=(tab8.getD (x / 4294967296 / 65536 / 256) 0).toNat_lt; rw [wrap_i64 (by omega) (by omega)]
        have p1:((0:Int)≤((x / 4294967296 / 65536 / 256:Nat):Int))=True:=eq_true (by omega)
        have p2:(((x / 4294967296 / 65536 / 256:Nat):Int) < 256)=True:=eq_true (by omega)
        simp only [Cz19,A_,simprocAttr,ne_eq,Uz1h.1,m32,m16,m8,f32,f16,f8,hx,g32',g16',g8',convL,hc,p1,p2,tab8_eq,tab8_len,ht,hw,wb]
        have e32:=bitsLen_shift (x:=x) (s:=32) (by omega)
        simp only [Nat.reducePow] at e32
        have e16:=bitsLen_shift (x:=x / 4294967296) (s:=16) (by omega)
        simp only [Nat.reducePow] at e16
        have e8:=bitsLen_shift (x:=x / 4294967296 / 65536) (s:=8) (by omega)
        simp only [Nat.reducePow] at e8
        rw [show Sort.bitsLen x=Sort.bitsLen (x / 4294967296 / 65536 / 256) + 56 by omega] at hK
        exact hK
      · have g8':¬((256:Int)≤((x / 4294967296 / 65536:Nat):Int)):=by omega
        have hy:x / 4294967296 / 65536 < 256:=by omega
        have hc:=w8 hy
        have ht:=tab8_ok _ hy
        have hw:IntKind.i64.wrap ((48:Int) + ((Sort.bitsLen (x / 4294967296 / 65536):Nat):Int))=((Sort.bitsLen (x / 4294967296 / 65536) + 48:Nat):Int):=by rw [←ht]; have:=(tab8.getD (x / 4294967296 / 65536) 0).toNat_lt; rw [wrap_i64 (by omega) (by omega)]; omega
        have wb:IntKind.i64.wrap ((Sort.bitsLen (x / 4294967296 / 65536):Nat):Int)=((Sort.bitsLen (x / 4294967296 / 65536):Nat):Int):=by rw [←ht]; have:=(tab8.getD (x / 4294967296 / 65536) 0).toNat_lt; rw [wrap_i64 (by omega) (by omega)]
        have p1:((0:Int)≤((x / 4294967296 / 65536:Nat):Int))=True:=eq_true (by omega)
        have p2:(((x / 4294967296 / 65536:Nat):Int) < 256)=True:=eq_true (by omega)
        simp only [Cz19,A_,simprocAttr,ne_eq,Uz1h.1,m32,m16,m8,f32,f16,f8,hx,g32',g16',g8',convL,hc,p1,p2,tab8_eq,tab8_len,ht,hw,wb]
        have e32:=bitsLen_shift (x:=x) (s:=32) (by omega)
        simp only [Nat.reducePow] at e32
        have e16:=bitsLen_shift (x:=x / 4294967296) (s:=16) (by omega)
        simp only [Nat.reducePow] at e16
        rw [show Sort.bitsLen x=Sort.bitsLen (x / 4294967296 / 65536) + 48 by omega] at hK
        exact hK
    · have g16':¬((65536:Int)≤((x / 4294967296:Nat):Int)):=by omega
      by_cases g8:256≤x / 4294967296
      · have g8':((256:Int)≤((x / 4294967296:Nat):Int)):=by omega
        have hy:x / 4294967296 / 256 < 256:=by omega
        have hc:=w8 hy
        have ht:=tab8_ok _ hy
        have hw:IntKind.i64.wrap ((40:Int) + ((Sort.bitsLen (x / 4294967296 / 256):Nat):Int))=((Sort.bitsLen (x / 4294967296 / 256) + 40:Nat):Int):=by rw [←ht]; have:=(tab8.getD (x / 4294967296 / 256) 0).toNat_lt; rw [wrap_i64 (by omega) (by omega)]; omega
        have wb:IntKind.i64.wrap ((Sort.bitsLen (x / 4294967296 / 256):Nat):Int)=((Sort.bitsLen (x / 4294967296 / 256):Nat):Int):=by rw [←ht]; have:=(tab8.getD (x / 4294967296 / 256) 0).toNat_lt; rw [wrap_i64 (by omega) (by omega)]
        have p1:((0:Int)≤((x / 4294967296 / 256:Nat):Int))=True:=eq_true (by omega)
        have p2:(((x / 4294967296 / 256:Nat):Int) < 256)=True:=eq_true (by omega)
        simp only [Cz19,A_,simprocAttr,ne_eq,Uz1h.1,m32,m16,m8,f32,f16,f8,hx,g32',g16',g8',convL,hc,p1,p2,tab8_eq,tab8_len,ht,hw,wb]
        have e32:=bitsLen_shift (x:=x) (s:=32) (by omega)
        simp only [Nat.reducePow] at e32
        have e8:=bitsLen_shift (x:=x / 4294967296) (s:=8) (by omega)
        simp only [Nat.reducePow] at e8
        rw [show Sort.bitsLen x=Sort.bitsLen (x / 4294967296 / 256) + 40 by omega] at hK
        exact hK
      · have g8':¬((256:Int)≤((x / 4294967296:Nat):Int)):=by omega
        have hy:x / 4294967296 < 256:=by omega
        have hc:=w8 hy
        have ht:=tab8_ok _ hy
        have hw:IntKind.i64.wrap ((32:Int) + ((Sort.bitsLen (x / 4294967296):Nat):Int))=((Sort.bitsLen (x / 4294967296) + 32:Nat):Int):=by rw [←ht]; have:=(tab8.getD (x / 4294967296) 0).toNat_lt; rw [wrap_i64 (by omega) (by omega)]; omega
        have wb:IntKind.i64.wrap ((Sort.bitsLen (x / 4294967296):Nat):Int)=((Sort.bitsLen (x / 4294967296):Nat):Int):=by rw [←ht]; have:=(tab8.getD (x / 4294967296) 0).toNat_lt; rw [wrap_i64 (by omega) (by omega)]
        have p1:((0:Int)≤((x / 4294967296:Nat):Int))=True:=eq_true (by omega)
        have p2:(((x / 4294967296:Nat):Int) < 256)=True:=eq_true (by omega)
        simp only [Cz19,A_,simprocAttr,ne_eq,Uz1h.1,m32,m16,m8,f32,f16,f8,hx,g32',g16',g8',convL,hc,p1,p2,tab8_eq,tab8_len,ht,hw,wb]
        have e32:=bitsLen_shift (x:=x) (s:=32) (by omega)
        simp only [Nat.reducePow] at e32
        rw [show Sort.bitsLen x=Sort.bitsLen (x / 4294967296) + 32 by omega] at hK
        exact hK
  · have g32':¬((4294967296:Int)≤((x:Nat):Int)):=by omega
    by_cases g16:65536≤x
    · have g16':((65536:Int)≤((x:Nat):Int)):=by omega
      by_cases g8:256≤x / 65536
      · have g8':((256:Int)≤((x / 65536:Nat):Int)):=by omega
        have hy:x / 65536 / 256 < 256:=by omega
        have hc:=w8 hy
        have ht:=tab8_ok _ hy
        have hw:IntKind.i64.wrap ((24:Int) + ((Sort.bitsLen (x / 65536 / 256):Nat):Int))=((Sort.bitsLen (x / 65536 / 256) + 24:Nat):Int):=by rw [←ht]; have:=(tab8.getD (x / 65536 / 256) 0).toNat_lt; rw [wrap_i64 (by omega) (by omega)]; omega
        have wb:IntKind.i64.wrap ((Sort.bitsLen (x / 65536 / 256):Nat):Int)=((Sort.bitsLen (x / 65536 / 256):Nat):Int):=by rw [←ht]; have:=(tab8.getD (x / 65536 / 256) 0).toNat_lt; rw [wrap_i64 (by omega) (by omega)]
        have p1:((0:Int)≤((x / 65536 / 256:Nat):Int))=True:=eq_true (by omega)
        have p2:(((x / 65536 / 256:Nat):Int) < 256)=True:=eq_true (by omega)
        simp only [Cz19,A_,simprocAttr,ne_eq,Uz1h.1,m32,m16,m8,f32,f16,f8,hx,g32',g16',g8',convL,hc,p1,p2,tab8_eq,tab8_len,ht,hw,wb]
        have e16:=bitsLen_shift (x:=x) (s:=16) (by omega)
        simp only [Nat.reducePow] at e16
        have e8:=bitsLen_shift (x:=x / 65536) (s:=8) (by omega)
        simp only [Nat.reducePow] at e8
        rw [show Sort.bitsLen x=Sort.bitsLen (x / 65536 / 256) + 24 by omega] at hK
        exact hK
      · have g8':¬((256:Int)≤((x / 65536:Nat):Int)):=by omega
        have hy:x / 65536 < 256:=by omega
        have hc:=w8 hy
        have ht:=tab8_ok _ hy
        have hw:IntKind.i64.wrap ((16:Int) + ((Sort.bitsLen (x / 65536):Nat):Int))=((Sort.bitsLen (x / 65536) + 16:Nat):Int):=by rw [←ht]; have:=(tab8.getD (x / 65536) 0).toNat_lt; rw [wrap_i64 (by omega) (by omega)]; omega
        have wb:IntKind.i64.wrap ((Sort.bitsLen (x / 65536):Nat):Int)=((Sort.bitsLen (x / 65536):Nat):Int):=by rw [←ht]; have:=(tab8.getD (x / 65536) 0).toNat_lt; rw [wrap_i64 (by omega) (by omega)]
        have p1:((0:Int)≤((x / 65536:Nat):Int))=True:=eq_true (by omega)
        have p2:(((x / 65536:Nat):Int) < 256)=True:=eq_true (by omega)
        simp only [Cz19,A_,simprocAttr,ne_eq,Uz1h.1,m32,m16,m8,f32,f16,f8,hx,g32',g16',g8',convL,hc,p1,p2,tab8_eq,tab8_len,ht,hw,wb]
        have e16:=bitsLen_shift (x:=x) (s:=16) (by omega)
        simp only [Nat.reducePow] at e16
        rw [show Sort.bitsLen x=Sort.bitsLen (x / 65536) + 16 by omega] at hK
        exact hK
    · have g16':¬((65536:Int)≤((x:Nat):Int)):=by omega
      by_cases g8:256≤x
      · have g8':((256:Int)≤((x:Nat):Int)):=by omega
        have hy:x / 256 < 256:=by omega
        have hc:=w8 hy
        have ht:=tab8_ok _ hy
        have hw:IntKind.i64.wrap ((8:Int) + ((Sort.bitsLen (x / 256):Nat):Int))=((Sort.bitsLen (x / 256) + 8:Nat):Int):=by rw [←ht]; have:=(tab8.getD (x / 256) 0).toNat_lt; rw [wrap_i64 (by omega) (by omega)]; omega
        have wb:IntKind.i64.wrap ((Sort.bitsLen (x / 256):Nat):Int)=((Sort.bitsLen (x / 256):Nat):Int):=by rw [←ht]; have:=(tab8.getD (x / 256) 0).toNat_lt; rw [wrap_i64 (by omega) (by omega)]
        have p1:((0:Int)≤((x / 256:Nat):Int))=True:=eq_true (by omega)
        have p2:(((x / 256:Nat):Int) < 256)=True:=eq_true (by omega)
        simp only [Cz19,A_,simprocAttr,ne_eq,Uz1h.1,m32,m16,m8,f32,f16,f8,hx,g32',g16',g8',convL,hc,p1,p2,tab8_eq,tab8_len,ht,hw,wb]
        have e8:=bitsLen_shift (x:=x) (s:=8) (by omega)
        simp only [Nat.reducePow] at e8
        rw [show Sort.bitsLen x=Sort.bitsLen (x / 256) + 8 by omega] at hK
        exact hK
      · have g8':¬((256:Int)≤((x:Nat):Int)):=by omega
        have hy:x < 256:=by omega
        have hc:=w8 hy
        have ht:=tab8_ok _ hy
        have hw:IntKind.i64.wrap ((0:Int) + ((Sort.bitsLen (x):Nat):Int))=((Sort.bitsLen (x) + 0:Nat):Int):=by rw [←ht]; have:=(tab8.getD (x) 0).toNat_lt; rw [wrap_i64 (by omega) (by omega)]; omega
        have wb:IntKind.i64.wrap ((Sort.bitsLen (x):Nat):Int)=((Sort.bitsLen (x):Nat):Int):=by rw [←ht]; have:=(tab8.getD (x) 0).toNat_lt; rw [wrap_i64 (by omega) (by omega)]
        have p1:((0:Int)≤((x:Nat):Int))=True:=eq_true (by omega)
        have p2:(((x:Nat):Int) < 256)=True:=eq_true (by omega)
        simp only [Cz19,A_,simprocAttr,ne_eq,Uz1h.1,m32,m16,m8,f32,f16,f8,hx,g32',g16',g8',convL,hc,p1,p2,tab8_eq,tab8_len,ht,hw,wb]
        rw [show Sort.bitsLen x=Sort.bitsLen (x) + 0 by omega] at hK
        exact hK
end Go.AM
namespace Go.AM
open Go
open AV renaming undef → uu
set_option maxRecDepth 20000
theorem Len_spec {C:CallW} (P:Program) {c:Nat→FuncId} (h1:LenS C (c 1)):∀(x:Nat) S H (K:AV→St→Prop),x < 18446744073709551616→K (.s (.int .i64 (Sort.bitsLen x:Nat))) ⟨S,H⟩→runL C P (Cz3i c) [.s (.int .u64 x)] ⟨S,H⟩ K:=by
  intro x S H K hx hK
  simp only [Cz3i,A_,simprocAttr,ne_eq,(Uz4j _).1]
  refine h1 x hx _ _ _ ?_
  simp only [A_,simprocAttr,ne_eq,(Uz4j _).1]
  exact hK
theorem bitsLen_le {x k:Nat} (h:x < 2 ^ k):Sort.bitsLen x≤k:=by
  unfold Sort.bitsLen
  split
  · exact Nat.zero_le _
  · rename_i hx
    exact (Nat.log2_lt hx).2 h
theorem bitsLen_pow {x:Nat} (h:1≤x):2 ^ Sort.bitsLen x≤2 * x:=by
  have hx:x≠0:=by omega
  unfold Sort.bitsLen
  rw [if_neg hx,Nat.pow_succ]
  have:=(Nat.log2_eq_iff hx).1 rfl
  omega
def NpS (C:CallW) (f:FuncId):Prop:=∀(n:Nat),n≤2305843009213693952→FnS C f [.s (.int .i64 n)] (.s (.int .u64 ((2 ^ Sort.bitsLen n:Nat):Int)))
theorem nextPow_spec {C:CallW} (P:Program) {c:Nat→FuncId} (h0:LenS C (c 0)):∀(n:Nat) S H (K:AV→St→Prop),n≤2305843009213693952→K (.s (.int .u64 ((2 ^ Sort.bitsLen n:Nat):Int))) ⟨S,H⟩→runL C P (Cz2i c) [.s (.int .i64 n)] ⟨S,H⟩ K:=by
  intro n S H K hn hK
  have hc:IntKind.u64.wrap (n:Int)=(n:Int):=wu64 (by omega)
  have hl:=bitsLen_le (x:=n) (k:=62) (by omega)
  simp only [Cz2i,A_,simprocAttr,ne_eq,(Uz2x _).1,convL,hc]
  refine h0 n (by omega) _ _ _ ?_
  have hpos:((0:Int)≤(Sort.bitsLen n:Int))=True:=eq_true (by omega)
  have hneg:((Sort.bitsLen n:Int) < 0)=False:=eq_false (by omega)
  simp only [A_,simprocAttr,ne_eq,(Uz2x _).1,hpos,hneg]
  rw [Nat.min_eq_left (show Sort.bitsLen n≤IntKind.u64.bits from Nat.le_trans hl (by decide)),Int.one_mul]
  have e:(2:Int) ^ Sort.bitsLen n=((2 ^ Sort.bitsLen n:Nat):Int):=by push_cast; rfl
  have hp:2 ^ Sort.bitsLen n≤2 ^ 62:=Nat.pow_le_pow_right (by omega) hl
  rw [e,wu64 (by omega)]
  exact hK
def remS (a length modulus:Nat):Nat→Nat→UInt64×Array Int→Array Int
  | 0,_,st=>st.2
  | l + 1,idx,st=>remS a length modulus l (idx + 1) (Sort.breakStep a length modulus st idx)
theorem and64 (x:UInt64) {m:Nat} (h:m < 18446744073709551616):IntKind.u64.wrap ((BitVec.ofInt IntKind.u64.bits (x.toNat:Int) &&& BitVec.ofInt IntKind.u64.bits (m:Int)).toNat:Int)=((x.toNat &&& m:Nat):Int):=by
  have e:(m:Int)=((UInt64.ofNat m).toNat:Int):=by rw [UInt64.toNat_ofNat']; omega
  rw [e,ofNat64,ofNat64]
  have h2:(x.toBitVec &&& (UInt64.ofNat m).toBitVec).toNat=x.toNat &&& m:=by
    rw [BitVec.toNat_and]
    show x.toNat &&& (UInt64.ofNat m).toNat=_
    rw [UInt64.toNat_ofNat',Nat.mod_eq_of_lt h]
  exact (congrArg (fun k:Nat=>IntKind.u64.wrap (k:Int)) h2).trans (wu64 (Nat.lt_of_le_of_lt Nat.and_le_right h))
set_option maxHeartbeats 16000000 in
theorem breakPatterns_spec {C:CallW} (hC:LeC C C) (P:Program) {c:Nat→FuncId} (h0:NpS C (c 0)) (h1:XorS C (c 1)):∀(n:Nat) (d:Array Int) (a b:Nat) S H (K:AV→St→Prop),S[n]? = some (flat iA d)→a < b→b≤d.size→d.size≤2305843009213693952→K (.tup []) ⟨S.set n (flat iA (Sort.breakPatterns d a b)),H⟩→runL C P (Cz16 c) [.row (.stk n) 0 d.size d.size,.s (.int .i64 a),.s (.int .i64 b)] ⟨S,H⟩ K:=by
  intro n d a b S H K hS hab hbd hdl hK
  have hn:=slt hS
  have hw0:IntKind.i64.wrap ((b:Int) - (a:Int))=((b - a:Nat):Int):=by rw [wrap_i64 (by omega) (by omega)]; omega
  have hq:IntKind.i64.wrap (((b - a:Nat):Int).tdiv 4)=(((b - a) / 4:Nat):Int):=by
    rw [show ((b - a:Nat):Int).tdiv 4=(((b - a) / 4:Nat):Int) from rfl,wrap_i64 (by omega) (by omega)]
  unfold Sort.breakPatterns at hK
  dsimp only at hK
  have hlb:b - a + a=b:=by omega
  generalize hl:b - a=l at *
  by_cases h8:8≤l
  case neg =>
    have h8':¬((8:Int)≤(l:Int)):=by omega
    rw [if_neg h8,sself hS] at hK
    simp only [Cz16,A_,simprocAttr,ne_eq,(Uzp _).1,hw0,h8']
    exact hK
  have h8':((8:Int)≤(l:Int)):=by omega
  rw [if_pos h8] at hK
  have hcl:IntKind.u64.wrap (l:Int)=(l:Int):=wu64 (by omega)
  have hul:((UInt64.ofNat l).toNat:Int)=(l:Int):=by rw [UInt64.toNat_ofNat']; omega
  have hst:storeL 1 (.ptr (.stk S.length) 0) (.s (.int .u64 l)) ⟨S ++ [[.s (.int .u64 0)]],H⟩=some ⟨S ++ [rB (UInt64.ofNat l)],H⟩:=by
    rw [show (AV.s (.int .u64 (l:Int))) = .s (.int .u64 ((UInt64.ofNat l).toNat:Int)) by rw [hul]]
    have:=rB_store (S:=S ++ [[.s (.int .u64 0)]]) (H:=H) (m:=S.length) (r:=0) (j:=UInt64.ofNat l) (by simp [rB])
    rw [this,sapp]
  simp only [Cz16,A_,simprocAttr,ne_eq,(Uzp _).1,hw0,h8',convL,hcl,hst]
  refine h0 l (by omega) _ _ _ ?_
  have hq2:2≤l / 4:=by omega
  have hq4:l / 4 * 4≤l:=Nat.div_mul_le_self l 4
  generalize l / 4=q at hq hq2 hq4 hK ⊢
  have b1:IntKind.i64.wrap ((q:Int) * 2)=((q * 2:Nat):Int):=by rw [wrap_i64 (by omega) (by omega)]; omega
  have b2:IntKind.i64.wrap ((a:Int) + ((q * 2:Nat):Int))=((a + q * 2:Nat):Int):=by rw [wrap_i64 (by omega) (by omega)]; omega
  obtain ⟨A2,hA2⟩:∃A2,a + q * 2=A2:=⟨_,rfl⟩
  obtain ⟨I0,hI0⟩:∃I0,A2 - 1=I0:=⟨_,rfl⟩
  obtain ⟨T,hT⟩:∃T,A2 + 1=T:=⟨_,rfl⟩
  rw [hA2] at b2 hK
  rw [hI0] at hK
  have b3:IntKind.i64.wrap ((A2:Int) - 1)=(I0:Int):=by rw [wrap_i64 (by omega) (by omega)]; omega
  have b4:IntKind.i64.wrap ((A2:Int) + 1)=(T:Int):=by rw [wrap_i64 (by omega) (by omega)]; omega
  have hp:=bitsLen_pow (x:=l) (by omega)
  have hp0:=Nat.two_pow_pos (Sort.bitsLen l)
  rw [show (1 <<< Sort.bitsLen l:Nat)=2 ^ Sort.bitsLen l by rw [Nat.shiftLeft_eq,Nat.one_mul]] at hK
  generalize hM:2 ^ Sort.bitsLen l=M at *
  have b5:IntKind.u64.wrap ((M:Int) - 1)=((M - 1:Nat):Int):=by rw [show ((M:Int) - 1)=((M - 1:Nat):Int) by omega]; exact wu64 (by omega)
  simp only [A_,simprocAttr,ne_eq,(Uzp _).1,hq,b1,b2,b3]
  generalize hX:(Sort.breakStep a l M (Sort.breakStep a l M (Sort.breakStep a l M (UInt64.ofNat l,d) I0) (I0 + 1)) (I0 + 2)).2=X at hK
  have hX2:X=remS a l M 3 I0 (UInt64.ofNat l,d):=hX.symm
  clear hX
  refine loop_rule hC (α:=Nat×Nat×UInt64×Array Int) (fun x=>x.1) (fun x=>[.row (.stk n) 0 d.size d.size,.s (.int .i64 a),uu,uu,uu,uu,.s (.int .i64 l),.ptr (.stk S.length) 0,.s (.int .u64 M),.s (.int .i64 x.2.1),uu,uu,uu,uu,uu,uu,uu,uu,uu,uu,uu,uu,uu,uu,uu,uu,uu,uu,uu,uu,uu,uu,uu,uu,uu,uu,uu,uu,uu,uu,uu,uu,uu,uu,uu,uu,uu,uu,uu,uu,uu,uu,uu,uu,uu,uu,uu,uu,uu,uu,uu,uu,uu,uu,uu]) (fun x=>S.set n (flat iA x.2.2.2) ++ [rB x.2.2.1]) (fun _=>H) (fun x=>x.1 + x.2.1=I0 + 3∧x.1≤3∧x.2.2.2.size=d.size∧X=remS a l M x.1 x.2.1 x.2.2) (3,I0,UInt64.ofNat l,d) ⟨by dsimp only; omega,Nat.le_refl _,rfl,hX2⟩ (by simp [keep,zm]) (by rw [sself hS,List.take_of_length_le]; simp) rfl (fun x _=>by simp [AV.under,AV.under.go]; omega) ?_
  rintro ⟨k,ix,r,e⟩ ⟨hki,hk3,hes,hinv⟩ ih
  dsimp only at hki hk3 hes hinv ih ⊢
  have hSe:(S.set n (flat iA e) ++ [rB r])[n]? = some (flat iA e):=sappg (sset hS)
  cases k with
  | zero =>
    have h':¬((ix:Int)≤(T:Int)):=by omega
    rw [hinv] at hK
    simp only [A_,simprocAttr,ne_eq,(Uzp _).1,hq,b1,b2,b4,h']
    rw [List.take_left' (by simp)]
    exact hK
  | succ k =>
    have h':((ix:Int)≤(T:Int)):=by omega
    have hwi:IntKind.i64.wrap ((ix:Int) + 1)=((ix + 1:Nat):Int):=by rw [wrap_i64 (by omega) (by omega)]; omega
    have hSr:(S.set n (flat iA e) ++ [rB r])[S.length]? = some (rB r):=by simp
    simp only [A_,simprocAttr,ne_eq,(Uzp _).1,hq,b1,b2,b4,h']
    refine h1 S.length r _ _ _ hSr ?_
    have hset:∀y,(S.set n (flat iA e) ++ [rB r]).set S.length y=S.set n (flat iA e) ++ [y]:=fun y=>by simp
    rw [hset]
    obtain ⟨r2,hr2⟩:∃r2,Sort.xorNext r=r2:=⟨_,rfl⟩
    rw [hr2]
    have hand:=and64 r2 (m:=M - 1) (by omega)
    have hol:r2.toNat &&& (M - 1)≤M - 1:=Nat.and_le_right
    rw [remS] at hinv
    unfold Sort.breakStep at hinv
    rw [hr2] at hinv
    dsimp only at hinv
    generalize r2.toNat &&& (M - 1)=o at hand hol hinv
    have hco:IntKind.i64.wrap (o:Int)=(o:Int):=wrap_i64 (by omega) (by omega)
    simp only [A_,simprocAttr,ne_eq,(Uzp _).1,b5,hand,convL,hco]
    by_cases hol2:l≤o
    · have ho':((l:Int)≤(o:Int)):=by omega
      rw [if_pos hol2] at hinv
      have hwo:IntKind.i64.wrap ((o:Int) - (l:Int))=((o - l:Nat):Int):=by rw [wrap_i64 (by omega) (by omega)]; omega
      have hao:IntKind.i64.wrap ((a:Int) + ((o - l:Nat):Int))=((a + (o - l):Nat):Int):=by rw [wrap_i64 (by omega) (by omega)]; omega
      have hSe2:∀y,(S.set n (flat iA e) ++ [y])[n]? = some (flat iA e):=fun y=>sappg (sset hS)
      have x1:∀kk:IntKind,indexAddrL (.sl 1) (.row (.stk n) 0 d.size d.size) (.s (.int kk (ix:Int)))=some (.ptr (.stk n) ix):=fun kk=>ixi (by omega)
      have x2:∀kk:IntKind,indexAddrL (.sl 1) (.row (.stk n) 0 d.size d.size) (.s (.int kk ((a + (o - l):Nat):Int)))=some (.ptr (.stk n) (a + (o - l))):=fun kk=>ixi (by omega)
      have r1:=ird (H:=H) (hSe2 (rB r2)) (i:=ix) (by omega)
      have r3:=ird (H:=H) (hSe2 (rB r2)) (i:=a + (o - l)) (by omega)
      have w1:=iwr (H:=H) (x:=e[a + (o - l)]!) (hSe2 (rB r2)) (i:=ix) (by omega)
      have hs1:∀z:Array Int,(S.set n (flat iA e) ++ [rB r2]).set n (flat iA z)=S.set n (flat iA z) ++ [rB r2]:=fun z=>by rw [List.set_append_left _ _ (by simp; exact hn),List.set_set]
      rw [hs1] at w1
      have hS2:(S.set n (flat iA (e.setIfInBounds ix e[a + (o - l)]!)) ++ [rB r2])[n]? = some (flat iA (e.setIfInBounds ix e[a + (o - l)]!)):=sappg (sset hS)
      have w2:=iwr (H:=H) (x:=e[ix]!) hS2 (i:=a + (o - l)) (by simp; omega)
      have hs2:∀z y:Array Int,(S.set n (flat iA y) ++ [rB r2]).set n (flat iA z)=S.set n (flat iA z) ++ [rB r2]:=fun z y=>by rw [List.set_append_left _ _ (by simp; exact hn),List.set_set]
      rw [hs2] at w2
      simp only [A_,simprocAttr,ne_eq,(Uzp _).1,ho',hwo,hao,x1,x2,r1,r3,w1,w2,hwi]
      exact ih (k,ix + 1,r2,Sort.swp e ix (a + (o - l))) _ _ _ (by dsimp only; omega) ⟨by dsimp only; omega,by dsimp only; omega,by rw [swp_size]; exact hes,hinv⟩ (by simp [keep,zm]) (by rw [List.take_of_length_le]; rfl; simp) rfl
    · have ho':¬((l:Int)≤(o:Int)):=by omega
      rw [if_neg hol2] at hinv
      have hwo:True:=trivial
      have hao:IntKind.i64.wrap ((a:Int) + (o:Int))=((a + o:Nat):Int):=by rw [wrap_i64 (by omega) (by omega)]; omega
      have hSe2:∀y,(S.set n (flat iA e) ++ [y])[n]? = some (flat iA e):=fun y=>sappg (sset hS)
      have x1:∀kk:IntKind,indexAddrL (.sl 1) (.row (.stk n) 0 d.size d.size) (.s (.int kk (ix:Int)))=some (.ptr (.stk n) ix):=fun kk=>ixi (by omega)
      have x2:∀kk:IntKind,indexAddrL (.sl 1) (.row (.stk n) 0 d.size d.size) (.s (.int kk ((a + o:Nat):Int)))=some (.ptr (.stk n) (a + o)):=fun kk=>ixi (by omega)
      have r1:=ird (H:=H) (hSe2 (rB r2)) (i:=ix) (by omega)
      have r3:=ird (H:=H) (hSe2 (rB r2)) (i:=a + o) (by omega)
      have w1:=iwr (H:=H) (x:=e[a + o]!) (hSe2 (rB r2)) (i:=ix) (by omega)
      have hs1:∀z:Array Int,(S.set n (flat iA e) ++ [rB r2]).set n (flat iA z)=S.set n (flat iA z) ++ [rB r2]:=fun z=>by rw [List.set_append_left _ _ (by simp; exact hn),List.set_set]
      rw [hs1] at w1
      have hS2:(S.set n (flat iA (e.setIfInBounds ix e[a + o]!)) ++ [rB r2])[n]? = some (flat iA (e.setIfInBounds ix e[a + o]!)):=sappg (sset hS)
      have w2:=iwr (H:=H) (x:=e[ix]!) hS2 (i:=a + o) (by simp; omega)
      have hs2:∀z y:Array Int,(S.set n (flat iA y) ++ [rB r2]).set n (flat iA z)=S.set n (flat iA z) ++ [rB r2]:=fun z y=>by rw [List.set_append_left _ _ (by simp; exact hn),List.set_set]
      rw [hs2] at w2
      simp only [A_,simprocAttr,ne_eq,(Uzp _).1,ho',hwo,hao,x1,x2,r1,r3,w1,w2,hwi]
      exact ih (k,ix + 1,r2,Sort.swp e ix (a + o)) _ _ _ (by dsimp only; omega) ⟨by dsimp only; omega,by dsimp only; omega,by rw [swp_size]; exact hes,hinv⟩ (by simp [keep,zm]) (by rw [List.take_of_length_le]; rfl; simp) rfl
end Go.AM
namespace Go.AM
open Go
open AV renaming undef → uu
set_option maxRecDepth 20000
theorem sw2 {S:List (List AV)} {H:List HObj} {n i j:Nat} {d:Array Int} (hS:S[n]? = some (flat iA d)) (hi:i < d.size) (hj:j < d.size):storeL 1 (.ptr (.stk n) i) (.s (.int .i64 d[j]!)) ⟨S,H⟩=some ⟨S.set n (flat iA (d.setIfInBounds i d[j]!)),H⟩∧storeL 1 (.ptr (.stk n) j) (.s (.int .i64 d[i]!)) ⟨S.set n (flat iA (d.setIfInBounds i d[j]!)),H⟩=some ⟨S.set n (flat iA (Sort.swp d i j)),H⟩:=by
  refine ⟨iwr hS hi,?_⟩
  have:=iwr (H:=H) (x:=d[i]!) (sset hS (y:=flat iA (d.setIfInBounds i d[j]!))) (i:=j) (by simpa using hj)
  rw [List.set_set] at this
  exact this
set_option maxHeartbeats 16000000 in
theorem y9q2_loop {C:CallW} (hC:LeC C C) (P:Program) {c:Nat→FuncId} (h0:LessS C (c 0)) {n a j N n0:Nat} {e:Array Int} {S:List (List AV)} {H:List HObj} {is:List Item} {K:KC} (hS:S[n]? = some (flat iA e)) (hn0:n0=S.length) (hN:e.size=N) (ha:a < N) (hj:j < N) (hl:N≤2305843009213693952):∀(i:Nat) (fr:Fr),i≤j + 2→keep (zm false [0,2,7,2,73]) fr=[.row (.stk n) 0 N N,.s (.int .i64 a),uu,uu,uu,uu,uu,uu,uu,.s (.int .i64 (i:Nat)),.s (.int .i64 (j:Nat)),uu,uu,uu,uu,uu,uu,uu,uu,uu,uu,uu,uu,uu,uu,uu,uu,uu,uu,uu,uu,uu,uu,uu,uu,uu,uu,uu,uu,uu,uu,uu,uu,uu,uu,uu,uu,uu,uu,uu,uu,uu,uu,uu,uu,uu,uu,uu,uu,uu,uu,uu,uu,uu,uu,uu,uu,uu,uu,uu,uu,uu,uu,uu,uu,uu,uu,uu,uu,uu,uu,uu,uu,uu]→(∀fr',keep (zm false [0,2,7,2,73]) fr'=[.row (.stk n) 0 N N,.s (.int .i64 a),uu,uu,uu,uu,uu,uu,uu,.s (.int .i64 (Sort.scanUp (fun x => !ltI e[a]! x) e j i:Nat)),.s (.int .i64 (j:Nat)),uu,uu,uu,uu,uu,uu,uu,uu,uu,uu,uu,uu,uu,uu,uu,uu,uu,uu,uu,uu,uu,uu,uu,uu,uu,uu,uu,uu,uu,uu,uu,uu,uu,uu,uu,uu,uu,uu,uu,uu,uu,uu,uu,uu,uu,uu,uu,uu,uu,uu,uu,uu,uu,uu,uu,uu,uu,uu,uu,uu,uu,uu,uu,uu,uu,uu,uu,uu,uu,uu,uu,uu,uu]→nxt C P false is fr' ⟨S,H⟩ K)→runLp C P false (zm false [0,2,7,2,73]) (y9q2 c) n0 (.blk 2 :: is) fr ⟨S,H⟩ K:=by
  intro i fr hi hk hX
  generalize hR:Sort.scanUp (fun x => !ltI e[a]! x) e j i=R at hX
  subst hn0
  have hn:=slt hS
  refine loop_rule hC (α:=Nat) (fun x=>j + 2 - x) (fun x=>[.row (.stk n) 0 N N,.s (.int .i64 a),uu,uu,uu,uu,uu,uu,uu,.s (.int .i64 (x:Nat)),.s (.int .i64 (j:Nat)),uu,uu,uu,uu,uu,uu,uu,uu,uu,uu,uu,uu,uu,uu,uu,uu,uu,uu,uu,uu,uu,uu,uu,uu,uu,uu,uu,uu,uu,uu,uu,uu,uu,uu,uu,uu,uu,uu,uu,uu,uu,uu,uu,uu,uu,uu,uu,uu,uu,uu,uu,uu,uu,uu,uu,uu,uu,uu,uu,uu,uu,uu,uu,uu,uu,uu,uu,uu,uu,uu,uu,uu,uu]) (fun _=>S) (fun _=>H) (fun x=>x≤j + 2∧R=Sort.scanUp (fun x => !ltI e[a]! x) e j x) i ⟨hi,hR.symm⟩ hk (by rw [List.take_of_length_le (Nat.le_refl _)]) rfl (fun x _=>by simp [AV.under,AV.under.go,hn]) ?_
  rintro x ⟨hx,hinv⟩ ih
  by_cases hxj:x≤j
  case neg =>
    have hlt:¬((x:Int)≤(j:Int)):=by omega
    rw [Sort.scanUp,if_neg (by rw [Bool.and_eq_true,decide_eq_true_eq]; exact fun h=>hxj h.1)] at hinv
    rw [hinv] at hX
    simp only [Cza,A_,simprocAttr,ne_eq,(Uzc _).1,hlt]
    exact hX _ (by simp [keep,zm])
  have hlt:((x:Int)≤(j:Int)):=by omega
  have hw1:IntKind.i64.wrap ((x:Int) + 1)=((x + 1:Nat):Int):=by rw [wrap_i64 (by omega) (by omega)]; omega
  have x1:∀kk:IntKind,indexAddrL (.sl 1) (.row (.stk n) 0 N N) (.s (.int kk (x:Int)))=some (.ptr (.stk n) x):=fun kk=>ixi (by omega)
  have x2:∀kk:IntKind,indexAddrL (.sl 1) (.row (.stk n) 0 N N) (.s (.int kk (a:Int)))=some (.ptr (.stk n) a):=fun kk=>ixi (by omega)
  have r1:=ird (H:=H) hS (i:=x) (by omega)
  have r2:=ird (H:=H) hS (i:=a) (by omega)
  simp only [Cza,A_,simprocAttr,ne_eq,(Uzc _).1,hlt,x1,x2,r1,r2]
  refine h0 _ _ _ _ _ ?_
  cases hlk:ltI e[a]! e[x]! with
  | true =>
    rw [Sort.scanUp,if_neg (by rw [Bool.and_eq_true,hlk]; simp)] at hinv
    rw [hinv] at hX
    simp only [Cza,A_,simprocAttr,ne_eq,(Uzc _).1]
    exact hX _ (by simp [keep,zm])
  | false =>
    rw [Sort.scanUp,if_pos (by rw [Bool.and_eq_true,hlk]; exact ⟨decide_eq_true hxj,rfl⟩)] at hinv
    simp only [Cza,A_,simprocAttr,ne_eq,(Uzc _).1,hw1]
    exact ih (x + 1) _ _ _ (by omega) ⟨by omega,hinv⟩ (by simp [keep,zm]) (by rw [List.take_of_length_le (Nat.le_refl _)]) rfl
set_option maxHeartbeats 16000000 in
theorem y9q4_loop {C:CallW} (hC:LeC C C) (P:Program) {c:Nat→FuncId} (h0:LessS C (c 0)) {n a i N n0:Nat} {e:Array Int} {S:List (List AV)} {H:List HObj} {is:List Item} {K:KC} (hS:S[n]? = some (flat iA e)) (hn0:n0=S.length) (hN:e.size=N) (ha:a < N) (hi:1≤i) (hl:N≤2305843009213693952):∀(j:Nat) (fr:Fr),j < N→keep (zm false [0,2,7,2,73]) fr=[.row (.stk n) 0 N N,.s (.int .i64 a),uu,uu,uu,uu,uu,uu,uu,.s (.int .i64 (i:Nat)),.s (.int .i64 (j:Nat)),uu,uu,uu,uu,uu,uu,uu,uu,uu,uu,uu,uu,uu,uu,uu,uu,uu,uu,uu,uu,uu,uu,uu,uu,uu,uu,uu,uu,uu,uu,uu,uu,uu,uu,uu,uu,uu,uu,uu,uu,uu,uu,uu,uu,uu,uu,uu,uu,uu,uu,uu,uu,uu,uu,uu,uu,uu,uu,uu,uu,uu,uu,uu,uu,uu,uu,uu,uu,uu,uu,uu,uu,uu]→(∀x46 x47 x48 x49 x50 x51 x52 x53 x54 x55 x56 x57 x58 x59:AV,nxt C P false is [.row (.stk n) 0 N N,.s (.int .i64 a),uu,uu,uu,uu,uu,uu,uu,.s (.int .i64 (i:Nat)),.s (.int .i64 (Sort.scanDown (fun x=>ltI e[a]! x) e i j:Nat)),uu,uu,uu,uu,uu,uu,uu,uu,uu,uu,uu,uu,uu,uu,uu,uu,uu,uu,uu,uu,uu,uu,uu,uu,uu,uu,uu,uu,uu,uu,uu,uu,uu,uu,uu,x46,x47,x48,x49,x50,x51,x52,x53,x54,x55,x56,x57,x58,x59,uu,uu,uu,uu,uu,uu,uu,uu,uu,uu,uu,uu,uu,uu,uu,uu,uu,uu,uu,uu,uu,uu,uu,uu] ⟨S,H⟩ K)→runLp C P false (zm false [0,2,7,2,73]) (y9q4 c) n0 (.blk 4 :: is) fr ⟨S,H⟩ K:=by
  intro j fr hj hk hX
  generalize hR:Sort.scanDown (fun x=>ltI e[a]! x) e i j=R at hX
  subst hn0
  have hn:=slt hS
  refine loop_rule hC (α:=Nat) (fun x=>x) (fun x=>[.row (.stk n) 0 N N,.s (.int .i64 a),uu,uu,uu,uu,uu,uu,uu,.s (.int .i64 (i:Nat)),.s (.int .i64 (x:Nat)),uu,uu,uu,uu,uu,uu,uu,uu,uu,uu,uu,uu,uu,uu,uu,uu,uu,uu,uu,uu,uu,uu,uu,uu,uu,uu,uu,uu,uu,uu,uu,uu,uu,uu,uu,uu,uu,uu,uu,uu,uu,uu,uu,uu,uu,uu,uu,uu,uu,uu,uu,uu,uu,uu,uu,uu,uu,uu,uu,uu,uu,uu,uu,uu,uu,uu,uu,uu,uu,uu,uu,uu,uu]) (fun _=>S) (fun _=>H) (fun x=>x < N∧R=Sort.scanDown (fun x=>ltI e[a]! x) e i x) j ⟨hj,hR.symm⟩ hk (by rw [List.take_of_length_le (Nat.le_refl _)]) rfl (fun x _=>by simp [AV.under,AV.under.go,hn]) ?_
  rintro x ⟨hx,hinv⟩ ih
  by_cases hxj:i≤x
  case neg =>
    have hlt:¬((i:Int)≤(x:Int)):=by omega
    have hq:Sort.scanDown (fun x=>ltI e[a]! x) e i x=x:=by
      cases x with
      | zero=>rfl
      | succ x=>rw [Sort.scanDown,if_neg (by rw [Bool.and_eq_true,decide_eq_true_eq]; exact fun h=>hxj h.1)]
    rw [hinv,hq] at hX
    simp only [Cza,A_,simprocAttr,ne_eq,(Uzc _).1,hlt]
    exact hX _ _ _ _ _ _ _ _ _ _ _ _ _ _
  obtain ⟨y,rfl⟩:∃y,x=y + 1:=⟨x - 1,by omega⟩
  have hlt:((i:Int)≤((y + 1:Nat):Int)):=by omega
  have hw1:IntKind.i64.wrap (((y + 1:Nat):Int) - 1)=((y:Nat):Int):=by rw [wrap_i64 (by omega) (by omega)]; omega
  have x1:∀kk:IntKind,indexAddrL (.sl 1) (.row (.stk n) 0 N N) (.s (.int kk ((y + 1:Nat):Int)))=some (.ptr (.stk n) (y + 1)):=fun kk=>ixi (by omega)
  have x2:∀kk:IntKind,indexAddrL (.sl 1) (.row (.stk n) 0 N N) (.s (.int kk (a:Int)))=some (.ptr (.stk n) a):=fun kk=>ixi (by omega)
  have r1:=ird (H:=H) hS (i:=y + 1) (by omega)
  have r2:=ird (H:=H) hS (i:=a) (by omega)
  simp only [Cza,A_,simprocAttr,ne_eq,(Uzc _).1,hlt,x1,x2,r1,r2]
  refine h0 _ _ _ _ _ ?_
  cases hlk:ltI e[a]! e[y + 1]! with
  | false =>
    rw [Sort.scanDown,if_neg (by rw [Bool.and_eq_true,hlk]; simp)] at hinv
    rw [hinv] at hX
    simp only [Cza,A_,simprocAttr,ne_eq,(Uzc _).1]
    exact hX _ _ _ _ _ _ _ _ _ _ _ _ _ _
  | true =>
    rw [Sort.scanDown,if_pos (by rw [Bool.and_eq_true,hlk]; exact ⟨decide_eq_true hxj,rfl⟩)] at hinv
    simp only [Cza,A_,simprocAttr,ne_eq,(Uzc _).1,hw1]
    exact ih y _ _ _ (by omega) ⟨by omega,hinv⟩ (by simp [keep,zm]) (by rw [List.take_of_length_le (Nat.le_refl _)]) rfl
theorem scanUp_bd (p:Int→Bool) (d:Array Int) (j:Nat):∀(m i:Nat),j + 1 - i≤m→i≤Sort.scanUp p d j i∧(Sort.scanUp p d j i≤j + 1∨Sort.scanUp p d j i=i):=by
  intro m
  induction m with
  | zero =>
    intro i h
    have:¬((decide (i≤j) && p d[i]!)=true):=by rw [Bool.and_eq_true,decide_eq_true_eq]; exact fun h=>by omega
    rw [Sort.scanUp,if_neg this]
    exact ⟨Nat.le_refl _,.inr rfl⟩
  | succ m ih =>
    intro i h
    rw [Sort.scanUp]
    split
    · rename_i h1
      rw [Bool.and_eq_true,decide_eq_true_eq] at h1
      obtain ⟨q1,q2⟩:=ih (i + 1) (by omega)
      refine ⟨by omega,.inl ?_⟩
      omega
    · exact ⟨Nat.le_refl _,.inr rfl⟩
theorem scanDown_le (p:Int→Bool) (d:Array Int) (i:Nat):∀j:Nat,Sort.scanDown p d i j≤j
  | 0=>Nat.le_refl _
  | j + 1=>by
    rw [Sort.scanDown]
    split
    · exact Nat.le_trans (scanDown_le p d i j) (Nat.le_succ _)
    · exact Nat.le_refl _
def PeqS (C:CallW) (f:FuncId):Prop:=∀(n:Nat) (d:Array Int) (a b p:Nat) S H (K:AV→St→Prop),S[n]? = some (flat iA d)→a≤p→p < b→b≤d.size→d.size≤2305843009213693952→K (.s (.int .i64 (Sort.partitionEqual ltI d a b p).1)) ⟨S.set n (flat iA (Sort.partitionEqual ltI d a b p).2),H⟩→C (.fn f) [.row (.stk n) 0 d.size d.size,.s (.int .i64 a),.s (.int .i64 b),.s (.int .i64 p)] ⟨S,H⟩ K
set_option maxHeartbeats 16000000 in
theorem partitionEqual_spec {C:CallW} (hC:LeC C C) (P:Program) {c:Nat→FuncId} (h0:LessS C (c 0)):∀(n:Nat) (d:Array Int) (a b p:Nat) S H (K:AV→St→Prop),S[n]? = some (flat iA d)→a≤p→p < b→b≤d.size→d.size≤2305843009213693952→K (.s (.int .i64 (Sort.partitionEqual ltI d a b p).1)) ⟨S.set n (flat iA (Sort.partitionEqual ltI d a b p).2),H⟩→runL C P (Cza c) [.row (.stk n) 0 d.size d.size,.s (.int .i64 a),.s (.int .i64 b),.s (.int .i64 p)] ⟨S,H⟩ K:=by
  intro n d a b p S H K hS hap hpb hbd hdl hK
  have hn:=slt hS
  unfold Sort.partitionEqual at hK
  have hw0:IntKind.i64.wrap ((a:Int) + 1)=((a + 1:Nat):Int):=by rw [wrap_i64 (by omega) (by omega)]; omega
  have hw1:IntKind.i64.wrap ((b:Int) - 1)=((b - 1:Nat):Int):=by rw [wrap_i64 (by omega) (by omega)]; omega
  have x1:∀kk:IntKind,indexAddrL (.sl 1) (.row (.stk n) 0 d.size d.size) (.s (.int kk (a:Int)))=some (.ptr (.stk n) a):=fun kk=>ixi (by omega)
  have x2:∀kk:IntKind,indexAddrL (.sl 1) (.row (.stk n) 0 d.size d.size) (.s (.int kk (p:Int)))=some (.ptr (.stk n) p):=fun kk=>ixi (by omega)
  have r1:=ird (H:=H) hS (i:=a) (by omega)
  have r2:=ird (H:=H) hS (i:=p) (by omega)
  obtain ⟨w1,w2⟩:=sw2 (H:=H) hS (i:=a) (j:=p) (by omega) (by omega)
  simp only [Cza,A_,simprocAttr,ne_eq,(Uzc _).1,hw0,hw1,x1,x2,r1,r2,w1,w2]
  have hds:(Sort.swp d a p).size=d.size:=swp_size
  generalize Sort.swp d a p=d1 at hK hds ⊢
  clear x1 x2 r1 r2 w1 w2
  generalize hX:Sort.partEqLoop ltI a (a + 1) (b - 1) d1=X at hK
  refine loop_rule hC (α:=Nat×Nat×Array Int) (fun x=>x.2.1 + 1 - x.1) (fun x=>[.row (.stk n) 0 d.size d.size,.s (.int .i64 a),uu,uu,uu,uu,uu,uu,uu,.s (.int .i64 (x.1:Nat)),.s (.int .i64 (x.2.1:Nat)),uu,uu,uu,uu,uu,uu,uu,uu,uu,uu,uu,uu,uu,uu,uu,uu,uu,uu,uu,uu,uu,uu,uu,uu,uu,uu,uu,uu,uu,uu,uu,uu,uu,uu,uu,uu,uu,uu,uu,uu,uu,uu,uu,uu,uu,uu,uu,uu,uu,uu,uu,uu,uu,uu,uu,uu,uu,uu,uu,uu,uu,uu,uu,uu,uu,uu,uu,uu,uu,uu,uu,uu,uu]) (fun x=>S.set n (flat iA x.2.2)) (fun _=>H) (fun x=>1≤x.1∧x.1≤x.2.1 + 2∧x.2.1 < d.size∧x.2.2.size=d.size∧X=Sort.partEqLoop ltI a x.1 x.2.1 x.2.2) (a + 1,b - 1,d1) ⟨by dsimp only; omega,by dsimp only; omega,by dsimp only; omega,hds,hX.symm⟩ (by simp [keep,zm]) (by rw [List.take_of_length_le]; simp) rfl (fun x _=>by simp [AV.under,AV.under.go,hn]) ?_
  rintro ⟨i,j,e⟩ ⟨h1,h2,hj,hes,hinv⟩ ih
  dsimp only at h1 h2 hj hes hinv ih ⊢
  simp only [Cza,A_,simprocAttr,ne_eq,(Uzc _).1]
  refine y9q2_loop (a:=a) hC P h0 (sset hS) (by simp) hes (by omega) hj hdl i _ h2 (by simp [keep,zm]) fun fr' hk' => ?_
  simp only [Cza,A_,simprocAttr,ne_eq,(Uzc _).1]
  obtain ⟨u1,u2⟩:=scanUp_bd (fun x => !ltI e[a]! x) e j _ i (Nat.le_refl _)
  obtain ⟨i2,hi2⟩:∃i2,Sort.scanUp (fun x => !ltI e[a]! x) e j i=i2:=⟨_,rfl⟩
  rw [hi2] at hk' u1 u2
  refine y9q4_loop (a:=a) hC P h0 (sset hS) (by simp) hes (by omega) (by omega) hdl j _ hj hk' ?_
  have v1:=scanDown_le (fun x=>ltI e[a]! x) e i2 j
  obtain ⟨j2,hj2⟩:∃j2,Sort.scanDown (fun x=>ltI e[a]! x) e i2 j=j2:=⟨_,rfl⟩
  rw [hj2] at v1 ⊢
  intro x46 x47 x48 x49 x50 x51 x52 x53 x54 x55 x56 x57 x58 x59
  rw [Sort.partEqLoop] at hinv
  simp only [hi2,hj2] at hinv
  by_cases hij:j2 < i2
  · have hlt:((j2:Int) < (i2:Int)):=by omega
    rw [if_pos hij] at hinv
    rw [hinv] at hK
    simp only [Cza,A_,simprocAttr,ne_eq,(Uzc _).1,hlt]
    exact hK
  have hlt:¬((j2:Int) < (i2:Int)):=by omega
  rw [if_neg hij,dif_pos (by omega)] at hinv
  have hwi:IntKind.i64.wrap ((i2:Int) + 1)=((i2 + 1:Nat):Int):=by rw [wrap_i64 (by omega) (by omega)]; omega
  have hwj:IntKind.i64.wrap ((j2:Int) - 1)=((j2 - 1:Nat):Int):=by rw [wrap_i64 (by omega) (by omega)]; omega
  have x1:∀kk:IntKind,indexAddrL (.sl 1) (.row (.stk n) 0 d.size d.size) (.s (.int kk (i2:Int)))=some (.ptr (.stk n) i2):=fun kk=>ixi (by omega)
  have x2:∀kk:IntKind,indexAddrL (.sl 1) (.row (.stk n) 0 d.size d.size) (.s (.int kk (j2:Int)))=some (.ptr (.stk n) j2):=fun kk=>ixi (by omega)
  have hSe:(S.set n (flat iA e))[n]? = some (flat iA e):=sset hS
  have r1:=ird (H:=H) hSe (i:=i2) (by omega)
  have r2:=ird (H:=H) hSe (i:=j2) (by omega)
  obtain ⟨w1,w2⟩:=sw2 (H:=H) hSe (i:=i2) (j:=j2) (by omega) (by omega)
  rw [List.set_set] at w1 w2
  rw [List.set_set] at w2
  simp only [Cza,A_,simprocAttr,ne_eq,(Uzc _).1,hlt,x1,x2,r1,r2,w1,w2,hwi,hwj]
  exact ih (i2 + 1,j2 - 1,Sort.swp e i2 j2) _ _ _ (by dsimp only; omega) ⟨by dsimp only; omega,by dsimp only; omega,by dsimp only; omega,by rw [swp_size]; exact hes,hinv⟩ (by simp [keep,zm]) (by rw [List.take_of_length_le]; simp) rfl
end Go.AM
namespace Go.AM
open Go
open AV renaming undef → uu
set_option maxRecDepth 20000
set_option maxHeartbeats 16000000 in
theorem y9r2_loop {C:CallW} (hC:LeC C C) (P:Program) {c:Nat→FuncId} (h0:LessS C (c 0)) {n a j N n0:Nat} {e:Array Int} {S:List (List AV)} {H:List HObj} {is:List Item} {K:KC} (hS:S[n]? = some (flat iA e)) (hn0:n0=S.length) (hN:e.size=N) (ha:a < N) (hj:j < N) (hl:N≤2305843009213693952):∀(i:Nat) (fr:Fr),i≤j + 2→keep (zm false [0,2,8,2,156]) fr=[.row (.stk n) 0 N N,.s (.int .i64 a),uu,uu,uu,uu,uu,uu,uu,uu,.s (.int .i64 (i:Nat)),.s (.int .i64 (j:Nat)),uu,uu,uu,uu,uu,uu,uu,uu,uu,uu,uu,uu,uu,uu,uu,uu,uu,uu,uu,uu,uu,uu,uu,uu,uu,uu,uu,uu,uu,uu,uu,uu,uu,uu,uu,uu,uu,uu,uu,uu,uu,uu,uu,uu,uu,uu,uu,uu,uu,uu,uu,uu,uu,uu,uu,uu,uu,uu,uu,uu,uu,uu,uu,uu,uu,uu,uu,uu,uu,uu,uu,uu,uu,uu,uu,uu,uu,uu,uu,uu,uu,uu,uu,uu,uu,uu,uu,uu,uu,uu,uu,uu,uu,uu,uu,uu,uu,uu,uu,uu,uu,uu,uu,uu,uu,uu,uu,uu,uu,uu,uu,uu,uu,uu,uu,uu,uu,uu,uu,uu,uu,uu,uu,uu,uu,uu,uu,uu,uu,uu,uu,uu,uu,uu,uu,uu,uu,uu,uu,uu,uu,uu,uu,uu,uu,uu,uu,uu,uu,uu,uu,uu,uu,uu,uu,uu]→(∀fr',keep (zm false [0,2,8,2,156]) fr'=[.row (.stk n) 0 N N,.s (.int .i64 a),uu,uu,uu,uu,uu,uu,uu,uu,.s (.int .i64 (Sort.scanUp (fun x=>ltI x e[a]!) e j i:Nat)),.s (.int .i64 (j:Nat)),uu,uu,uu,uu,uu,uu,uu,uu,uu,uu,uu,uu,uu,uu,uu,uu,uu,uu,uu,uu,uu,uu,uu,uu,uu,uu,uu,uu,uu,uu,uu,uu,uu,uu,uu,uu,uu,uu,uu,uu,uu,uu,uu,uu,uu,uu,uu,uu,uu,uu,uu,uu,uu,uu,uu,uu,uu,uu,uu,uu,uu,uu,uu,uu,uu,uu,uu,uu,uu,uu,uu,uu,uu,uu,uu,uu,uu,uu,uu,uu,uu,uu,uu,uu,uu,uu,uu,uu,uu,uu,uu,uu,uu,uu,uu,uu,uu,uu,uu,uu,uu,uu,uu,uu,uu,uu,uu,uu,uu,uu,uu,uu,uu,uu,uu,uu,uu,uu,uu,uu,uu,uu,uu,uu,uu,uu,uu,uu,uu,uu,uu,uu,uu,uu,uu,uu,uu,uu,uu,uu,uu,uu,uu,uu,uu,uu,uu,uu,uu,uu,uu,uu,uu,uu,uu,uu]→nxt C P false is fr' ⟨S,H⟩ K)→runLp C P false (zm false [0,2,8,2,156]) (y9r2 c) n0 (.blk 0 :: is) fr ⟨S,H⟩ K:=by
  intro i fr hi hk hX
  generalize hR:Sort.scanUp (fun x=>ltI x e[a]!) e j i=R at hX
  subst hn0
  have hn:=slt hS
  refine loop_rule hC (α:=Nat) (fun x=>j + 2 - x) (fun x=>[.row (.stk n) 0 N N,.s (.int .i64 a),uu,uu,uu,uu,uu,uu,uu,uu,.s (.int .i64 (x:Nat)),.s (.int .i64 (j:Nat)),uu,uu,uu,uu,uu,uu,uu,uu,uu,uu,uu,uu,uu,uu,uu,uu,uu,uu,uu,uu,uu,uu,uu,uu,uu,uu,uu,uu,uu,uu,uu,uu,uu,uu,uu,uu,uu,uu,uu,uu,uu,uu,uu,uu,uu,uu,uu,uu,uu,uu,uu,uu,uu,uu,uu,uu,uu,uu,uu,uu,uu,uu,uu,uu,uu,uu,uu,uu,uu,uu,uu,uu,uu,uu,uu,uu,uu,uu,uu,uu,uu,uu,uu,uu,uu,uu,uu,uu,uu,uu,uu,uu,uu,uu,uu,uu,uu,uu,uu,uu,uu,uu,uu,uu,uu,uu,uu,uu,uu,uu,uu,uu,uu,uu,uu,uu,uu,uu,uu,uu,uu,uu,uu,uu,uu,uu,uu,uu,uu,uu,uu,uu,uu,uu,uu,uu,uu,uu,uu,uu,uu,uu,uu,uu,uu,uu,uu,uu,uu,uu,uu,uu,uu,uu,uu,uu]) (fun _=>S) (fun _=>H) (fun x=>x≤j + 2∧R=Sort.scanUp (fun x=>ltI x e[a]!) e j x) i ⟨hi,hR.symm⟩ hk (by rw [List.take_of_length_le (Nat.le_refl _)]) rfl (fun x _=>by simp [AV.under,AV.under.go,hn]) ?_
  rintro x ⟨hx,hinv⟩ ih
  by_cases hxj:x≤j
  case neg =>
    have hlt:¬((x:Int)≤(j:Int)):=by omega
    rw [Sort.scanUp,if_neg (by rw [Bool.and_eq_true,decide_eq_true_eq]; exact fun h=>hxj h.1)] at hinv
    rw [hinv] at hX
    simp only [Cz6,A_,simprocAttr,ne_eq,(Uz8 _).1,hlt]
    exact hX _ (by simp [keep,zm])
  have hlt:((x:Int)≤(j:Int)):=by omega
  have hw1:IntKind.i64.wrap ((x:Int) + 1)=((x + 1:Nat):Int):=by rw [wrap_i64 (by omega) (by omega)]; omega
  have x1:∀kk:IntKind,indexAddrL (.sl 1) (.row (.stk n) 0 N N) (.s (.int kk (x:Int)))=some (.ptr (.stk n) x):=fun kk=>ixi (by omega)
  have x2:∀kk:IntKind,indexAddrL (.sl 1) (.row (.stk n) 0 N N) (.s (.int kk (a:Int)))=some (.ptr (.stk n) a):=fun kk=>ixi (by omega)
  have r1:=ird (H:=H) hS (i:=x) (by omega)
  have r2:=ird (H:=H) hS (i:=a) (by omega)
  simp only [Cz6,A_,simprocAttr,ne_eq,(Uz8 _).1,hlt,x1,x2,r1,r2]
  refine h0 _ _ _ _ _ ?_
  cases hlk:ltI e[x]! e[a]! with
  | false =>
    rw [Sort.scanUp,if_neg (by rw [Bool.and_eq_true,hlk]; simp)] at hinv
    rw [hinv] at hX
    simp only [Cz6,A_,simprocAttr,ne_eq,(Uz8 _).1]
    exact hX _ (by simp [keep,zm])
  | true =>
    rw [Sort.scanUp,if_pos (by rw [Bool.and_eq_true,hlk]; exact ⟨decide_eq_true hxj,rfl⟩)] at hinv
    simp only [Cz6,A_,simprocAttr,ne_eq,(Uz8 _).1,hw1]
    exact ih (x + 1) _ _ _ (by omega) ⟨by omega,hinv⟩ (by simp [keep,zm]) (by rw [List.take_of_length_le (Nat.le_refl _)]) rfl
set_option maxHeartbeats 16000000 in
theorem y9r4_loop {C:CallW} (hC:LeC C C) (P:Program) {c:Nat→FuncId} (h0:LessS C (c 0)) {n a i N n0:Nat} {e:Array Int} {S:List (List AV)} {H:List HObj} {is:List Item} {K:KC} (hS:S[n]? = some (flat iA e)) (hn0:n0=S.length) (hN:e.size=N) (ha:a < N) (hi:1≤i) (hl:N≤2305843009213693952):∀(j:Nat) (fr:Fr),j < N→keep (zm false [0,2,8,2,156]) fr=[.row (.stk n) 0 N N,.s (.int .i64 a),uu,uu,uu,uu,uu,uu,uu,uu,.s (.int .i64 (i:Nat)),.s (.int .i64 (j:Nat)),uu,uu,uu,uu,uu,uu,uu,uu,uu,uu,uu,uu,uu,uu,uu,uu,uu,uu,uu,uu,uu,uu,uu,uu,uu,uu,uu,uu,uu,uu,uu,uu,uu,uu,uu,uu,uu,uu,uu,uu,uu,uu,uu,uu,uu,uu,uu,uu,uu,uu,uu,uu,uu,uu,uu,uu,uu,uu,uu,uu,uu,uu,uu,uu,uu,uu,uu,uu,uu,uu,uu,uu,uu,uu,uu,uu,uu,uu,uu,uu,uu,uu,uu,uu,uu,uu,uu,uu,uu,uu,uu,uu,uu,uu,uu,uu,uu,uu,uu,uu,uu,uu,uu,uu,uu,uu,uu,uu,uu,uu,uu,uu,uu,uu,uu,uu,uu,uu,uu,uu,uu,uu,uu,uu,uu,uu,uu,uu,uu,uu,uu,uu,uu,uu,uu,uu,uu,uu,uu,uu,uu,uu,uu,uu,uu,uu,uu,uu,uu,uu,uu,uu,uu,uu,uu,uu]→(∀x46 x47 x48 x49 x50 x51 x52 x53 x54 x55 x56 x57 x58 x59 x60:AV,nxt C P false is [.row (.stk n) 0 N N,.s (.int .i64 a),uu,uu,uu,uu,uu,uu,uu,uu,.s (.int .i64 (i:Nat)),.s (.int .i64 (Sort.scanDown (fun x => !ltI x e[a]!) e i j:Nat)),uu,uu,uu,uu,uu,uu,uu,uu,uu,uu,uu,uu,uu,uu,uu,uu,uu,uu,uu,uu,uu,uu,uu,uu,uu,uu,uu,uu,uu,uu,uu,uu,uu,uu,x46,x47,x48,x49,x50,x51,x52,x53,x54,x55,x56,x57,x58,x59,x60,uu,uu,uu,uu,uu,uu,uu,uu,uu,uu,uu,uu,uu,uu,uu,uu,uu,uu,uu,uu,uu,uu,uu,uu,uu,uu,uu,uu,uu,uu,uu,uu,uu,uu,uu,uu,uu,uu,uu,uu,uu,uu,uu,uu,uu,uu,uu,uu,uu,uu,uu,uu,uu,uu,uu,uu,uu,uu,uu,uu,uu,uu,uu,uu,uu,uu,uu,uu,uu,uu,uu,uu,uu,uu,uu,uu,uu,uu,uu,uu,uu,uu,uu,uu,uu,uu,uu,uu,uu,uu,uu,uu,uu,uu,uu,uu,uu,uu,uu,uu,uu,uu,uu,uu,uu,uu,uu] ⟨S,H⟩ K)→runLp C P false (zm false [0,2,8,2,156]) (y9r4 c) n0 (.blk 2 :: is) fr ⟨S,H⟩ K:=by
  intro j fr hj hk hX
  generalize hR:Sort.scanDown (fun x => !ltI x e[a]!) e i j=R at hX
  subst hn0
  have hn:=slt hS
  refine loop_rule hC (α:=Nat) (fun x=>x) (fun x=>[.row (.stk n) 0 N N,.s (.int .i64 a),uu,uu,uu,uu,uu,uu,uu,uu,.s (.int .i64 (i:Nat)),.s (.int .i64 (x:Nat)),uu,uu,uu,uu,uu,uu,uu,uu,uu,uu,uu,uu,uu,uu,uu,uu,uu,uu,uu,uu,uu,uu,uu,uu,uu,uu,uu,uu,uu,uu,uu,uu,uu,uu,uu,uu,uu,uu,uu,uu,uu,uu,uu,uu,uu,uu,uu,uu,uu,uu,uu,uu,uu,uu,uu,uu,uu,uu,uu,uu,uu,uu,uu,uu,uu,uu,uu,uu,uu,uu,uu,uu,uu,uu,uu,uu,uu,uu,uu,uu,uu,uu,uu,uu,uu,uu,uu,uu,uu,uu,uu,uu,uu,uu,uu,uu,uu,uu,uu,uu,uu,uu,uu,uu,uu,uu,uu,uu,uu,uu,uu,uu,uu,uu,uu,uu,uu,uu,uu,uu,uu,uu,uu,uu,uu,uu,uu,uu,uu,uu,uu,uu,uu,uu,uu,uu,uu,uu,uu,uu,uu,uu,uu,uu,uu,uu,uu,uu,uu,uu,uu,uu,uu,uu,uu,uu]) (fun _=>S) (fun _=>H) (fun x=>x < N∧R=Sort.scanDown (fun x => !ltI x e[a]!) e i x) j ⟨hj,hR.symm⟩ hk (by rw [List.take_of_length_le (Nat.le_refl _)]) rfl (fun x _=>by simp [AV.under,AV.under.go,hn]) ?_
  rintro x ⟨hx,hinv⟩ ih
  by_cases hxj:i≤x
  case neg =>
    have hlt:¬((i:Int)≤(x:Int)):=by omega
    have hq:Sort.scanDown (fun x => !ltI x e[a]!) e i x=x:=by
      cases x with
      | zero=>rfl
      | succ x=>rw [Sort.scanDown,if_neg (by rw [Bool.and_eq_true,decide_eq_true_eq]; exact fun h=>hxj h.1)]
    rw [hinv,hq] at hX
    simp only [Cz6,A_,simprocAttr,ne_eq,(Uz8 _).1,hlt]
    exact hX _ _ _ _ _ _ _ _ _ _ _ _ _ _ _
  obtain ⟨y,rfl⟩:∃y,x=y + 1:=⟨x - 1,by omega⟩
  have hlt:((i:Int)≤((y + 1:Nat):Int)):=by omega
  have hw1:IntKind.i64.wrap (((y + 1:Nat):Int) - 1)=((y:Nat):Int):=by rw [wrap_i64 (by omega) (by omega)]; omega
  have x1:∀kk:IntKind,indexAddrL (.sl 1) (.row (.stk n) 0 N N) (.s (.int kk ((y + 1:Nat):Int)))=some (.ptr (.stk n) (y + 1)):=fun kk=>ixi (by omega)
  have x2:∀kk:IntKind,indexAddrL (.sl 1) (.row (.stk n) 0 N N) (.s (.int kk (a:Int)))=some (.ptr (.stk n) a):=fun kk=>ixi (by omega)
  have r1:=ird (H:=H) hS (i:=y + 1) (by omega)
  have r2:=ird (H:=H) hS (i:=a) (by omega)
  simp only [Cz6,A_,simprocAttr,ne_eq,(Uz8 _).1,hlt,x1,x2,r1,r2]
  refine h0 _ _ _ _ _ ?_
  cases hlk:ltI e[y + 1]! e[a]! with
  | true =>
    rw [Sort.scanDown,if_neg (by rw [Bool.and_eq_true,hlk]; simp)] at hinv
    rw [hinv] at hX
    simp only [Cz6,A_,simprocAttr,ne_eq,(Uz8 _).1]
    exact hX _ _ _ _ _ _ _ _ _ _ _ _ _ _ _
  | false =>
    rw [Sort.scanDown,if_pos (by rw [Bool.and_eq_true,hlk]; exact ⟨decide_eq_true hxj,rfl⟩)] at hinv
    simp only [Cz6,A_,simprocAttr,ne_eq,(Uz8 _).1,hw1]
    exact ih y _ _ _ (by omega) ⟨by omega,hinv⟩ (by simp [keep,zm]) (by rw [List.take_of_length_le (Nat.le_refl _)]) rfl
set_option maxHeartbeats 16000000 in
theorem y9r8_loop {C:CallW} (hC:LeC C C) (P:Program) {c:Nat→FuncId} (h0:LessS C (c 0)) {n a j N n0:Nat} {e:Array Int} {S:List (List AV)} {H:List HObj} {is:List Item} {K:KC} (hS:S[n]? = some (flat iA e)) (hn0:n0=S.length) (hN:e.size=N) (ha:a < N) (hj:j < N) (hl:N≤2305843009213693952):∀(i:Nat) (fr:Fr),i≤j + 2→keep (zm false [0,2,8,2,156]) fr=[.row (.stk n) 0 N N,.s (.int .i64 a),uu,uu,uu,uu,uu,uu,uu,uu,.s (.int .i64 (i:Nat)),.s (.int .i64 (j:Nat)),uu,uu,uu,uu,uu,uu,uu,uu,uu,uu,uu,uu,uu,uu,uu,uu,uu,uu,uu,uu,uu,uu,uu,uu,uu,uu,uu,uu,uu,uu,uu,uu,uu,uu,uu,uu,uu,uu,uu,uu,uu,uu,uu,uu,uu,uu,uu,uu,uu,uu,uu,uu,uu,uu,uu,uu,uu,uu,uu,uu,uu,uu,uu,uu,uu,uu,uu,uu,uu,uu,uu,uu,uu,uu,uu,uu,uu,uu,uu,uu,uu,uu,uu,uu,uu,uu,uu,uu,uu,uu,uu,uu,uu,uu,uu,uu,uu,uu,uu,uu,uu,uu,uu,uu,uu,uu,uu,uu,uu,uu,uu,uu,uu,uu,uu,uu,uu,uu,uu,uu,uu,uu,uu,uu,uu,uu,uu,uu,uu,uu,uu,uu,uu,uu,uu,uu,uu,uu,uu,uu,uu,uu,uu,uu,uu,uu,uu,uu,uu,uu,uu,uu,uu,uu,uu,uu]→(∀fr',keep (zm false [0,2,8,2,156]) fr'=[.row (.stk n) 0 N N,.s (.int .i64 a),uu,uu,uu,uu,uu,uu,uu,uu,.s (.int .i64 (Sort.scanUp (fun x=>ltI x e[a]!) e j i:Nat)),.s (.int .i64 (j:Nat)),uu,uu,uu,uu,uu,uu,uu,uu,uu,uu,uu,uu,uu,uu,uu,uu,uu,uu,uu,uu,uu,uu,uu,uu,uu,uu,uu,uu,uu,uu,uu,uu,uu,uu,uu,uu,uu,uu,uu,uu,uu,uu,uu,uu,uu,uu,uu,uu,uu,uu,uu,uu,uu,uu,uu,uu,uu,uu,uu,uu,uu,uu,uu,uu,uu,uu,uu,uu,uu,uu,uu,uu,uu,uu,uu,uu,uu,uu,uu,uu,uu,uu,uu,uu,uu,uu,uu,uu,uu,uu,uu,uu,uu,uu,uu,uu,uu,uu,uu,uu,uu,uu,uu,uu,uu,uu,uu,uu,uu,uu,uu,uu,uu,uu,uu,uu,uu,uu,uu,uu,uu,uu,uu,uu,uu,uu,uu,uu,uu,uu,uu,uu,uu,uu,uu,uu,uu,uu,uu,uu,uu,uu,uu,uu,uu,uu,uu,uu,uu,uu,uu,uu,uu,uu,uu,uu]→nxt C P false is fr' ⟨S,H⟩ K)→runLp C P false (zm false [0,2,8,2,156]) (y9r8 c) n0 (.blk 6 :: is) fr ⟨S,H⟩ K:=by
  intro i fr hi hk hX
  generalize hR:Sort.scanUp (fun x=>ltI x e[a]!) e j i=R at hX
  subst hn0
  have hn:=slt hS
  refine loop_rule hC (α:=Nat) (fun x=>j + 2 - x) (fun x=>[.row (.stk n) 0 N N,.s (.int .i64 a),uu,uu,uu,uu,uu,uu,uu,uu,.s (.int .i64 (x:Nat)),.s (.int .i64 (j:Nat)),uu,uu,uu,uu,uu,uu,uu,uu,uu,uu,uu,uu,uu,uu,uu,uu,uu,uu,uu,uu,uu,uu,uu,uu,uu,uu,uu,uu,uu,uu,uu,uu,uu,uu,uu,uu,uu,uu,uu,uu,uu,uu,uu,uu,uu,uu,uu,uu,uu,uu,uu,uu,uu,uu,uu,uu,uu,uu,uu,uu,uu,uu,uu,uu,uu,uu,uu,uu,uu,uu,uu,uu,uu,uu,uu,uu,uu,uu,uu,uu,uu,uu,uu,uu,uu,uu,uu,uu,uu,uu,uu,uu,uu,uu,uu,uu,uu,uu,uu,uu,uu,uu,uu,uu,uu,uu,uu,uu,uu,uu,uu,uu,uu,uu,uu,uu,uu,uu,uu,uu,uu,uu,uu,uu,uu,uu,uu,uu,uu,uu,uu,uu,uu,uu,uu,uu,uu,uu,uu,uu,uu,uu,uu,uu,uu,uu,uu,uu,uu,uu,uu,uu,uu,uu,uu,uu]) (fun _=>S) (fun _=>H) (fun x=>x≤j + 2∧R=Sort.scanUp (fun x=>ltI x e[a]!) e j x) i ⟨hi,hR.symm⟩ hk (by rw [List.take_of_length_le (Nat.le_refl _)]) rfl (fun x _=>by simp [AV.under,AV.under.go,hn]) ?_
  rintro x ⟨hx,hinv⟩ ih
  by_cases hxj:x≤j
  case neg =>
    have hlt:¬((x:Int)≤(j:Int)):=by omega
    rw [Sort.scanUp,if_neg (by rw [Bool.and_eq_true,decide_eq_true_eq]; exact fun h=>hxj h.1)] at hinv
    rw [hinv] at hX
    simp only [Cz6,A_,simprocAttr,ne_eq,(Uz8 _).1,hlt]
    exact hX _ (by simp [keep,zm])
  have hlt:((x:Int)≤(j:Int)):=by omega
  have hw1:IntKind.i64.wrap ((x:Int) + 1)=((x + 1:Nat):Int):=by rw [wrap_i64 (by omega) (by omega)]; omega
  have x1:∀kk:IntKind,indexAddrL (.sl 1) (.row (.stk n) 0 N N) (.s (.int kk (x:Int)))=some (.ptr (.stk n) x):=fun kk=>ixi (by omega)
  have x2:∀kk:IntKind,indexAddrL (.sl 1) (.row (.stk n) 0 N N) (.s (.int kk (a:Int)))=some (.ptr (.stk n) a):=fun kk=>ixi (by omega)
  have r1:=ird (H:=H) hS (i:=x) (by omega)
  have r2:=ird (H:=H) hS (i:=a) (by omega)
  simp only [Cz6,A_,simprocAttr,ne_eq,(Uz8 _).1,hlt,x1,x2,r1,r2]
  refine h0 _ _ _ _ _ ?_
  cases hlk:ltI e[x]! e[a]! with
  | false =>
    rw [Sort.scanUp,if_neg (by rw [Bool.and_eq_true,hlk]; simp)] at hinv
    rw [hinv] at hX
    simp only [Cz6,A_,simprocAttr,ne_eq,(Uz8 _).1]
    exact hX _ (by simp [keep,zm])
  | true =>
    rw [Sort.scanUp,if_pos (by rw [Bool.and_eq_true,hlk]; exact ⟨decide_eq_true hxj,rfl⟩)] at hinv
    simp only [Cz6,A_,simprocAttr,ne_eq,(Uz8 _).1,hw1]
    exact ih (x + 1) _ _ _ (by omega) ⟨by omega,hinv⟩ (by simp [keep,zm]) (by rw [List.take_of_length_le (Nat.le_refl _)]) rfl
set_option maxHeartbeats 16000000 in
theorem y9r10_loop {C:CallW} (hC:LeC C C) (P:Program) {c:Nat→FuncId} (h0:LessS C (c 0)) {n a i N n0:Nat} {e:Array Int} {S:List (List AV)} {H:List HObj} {is:List Item} {K:KC} (hS:S[n]? = some (flat iA e)) (hn0:n0=S.length) (hN:e.size=N) (ha:a < N) (hi:1≤i) (hl:N≤2305843009213693952):∀(j:Nat) (fr:Fr),j < N→keep (zm false [0,2,8,2,156]) fr=[.row (.stk n) 0 N N,.s (.int .i64 a),uu,uu,uu,uu,uu,uu,uu,uu,.s (.int .i64 (i:Nat)),.s (.int .i64 (j:Nat)),uu,uu,uu,uu,uu,uu,uu,uu,uu,uu,uu,uu,uu,uu,uu,uu,uu,uu,uu,uu,uu,uu,uu,uu,uu,uu,uu,uu,uu,uu,uu,uu,uu,uu,uu,uu,uu,uu,uu,uu,uu,uu,uu,uu,uu,uu,uu,uu,uu,uu,uu,uu,uu,uu,uu,uu,uu,uu,uu,uu,uu,uu,uu,uu,uu,uu,uu,uu,uu,uu,uu,uu,uu,uu,uu,uu,uu,uu,uu,uu,uu,uu,uu,uu,uu,uu,uu,uu,uu,uu,uu,uu,uu,uu,uu,uu,uu,uu,uu,uu,uu,uu,uu,uu,uu,uu,uu,uu,uu,uu,uu,uu,uu,uu,uu,uu,uu,uu,uu,uu,uu,uu,uu,uu,uu,uu,uu,uu,uu,uu,uu,uu,uu,uu,uu,uu,uu,uu,uu,uu,uu,uu,uu,uu,uu,uu,uu,uu,uu,uu,uu,uu,uu,uu,uu,uu]→(∀x115 x116 x117 x118 x119 x120 x121 x122 x123 x124 x125 x126 x127 x128 x129:AV,nxt C P false is [.row (.stk n) 0 N N,.s (.int .i64 a),uu,uu,uu,uu,uu,uu,uu,uu,.s (.int .i64 (i:Nat)),.s (.int .i64 (Sort.scanDown (fun x => !ltI x e[a]!) e i j:Nat)),uu,uu,uu,uu,uu,uu,uu,uu,uu,uu,uu,uu,uu,uu,uu,uu,uu,uu,uu,uu,uu,uu,uu,uu,uu,uu,uu,uu,uu,uu,uu,uu,uu,uu,uu,uu,uu,uu,uu,uu,uu,uu,uu,uu,uu,uu,uu,uu,uu,uu,uu,uu,uu,uu,uu,uu,uu,uu,uu,uu,uu,uu,uu,uu,uu,uu,uu,uu,uu,uu,uu,uu,uu,uu,uu,uu,uu,uu,uu,uu,uu,uu,uu,uu,uu,uu,uu,uu,uu,uu,uu,uu,uu,uu,uu,uu,uu,uu,uu,uu,uu,uu,uu,x115,x116,x117,x118,x119,x120,x121,x122,x123,x124,x125,x126,x127,x128,x129,uu,uu,uu,uu,uu,uu,uu,uu,uu,uu,uu,uu,uu,uu,uu,uu,uu,uu,uu,uu,uu,uu,uu,uu,uu,uu,uu,uu,uu,uu,uu,uu,uu,uu,uu,uu,uu,uu] ⟨S,H⟩ K)→runLp C P false (zm false [0,2,8,2,156]) (y9r10 c) n0 (.blk 8 :: is) fr ⟨S,H⟩ K:=by
  intro j fr hj hk hX
  generalize hR:Sort.scanDown (fun x => !ltI x e[a]!) e i j=R at hX
  subst hn0
  have hn:=slt hS
  refine loop_rule hC (α:=Nat) (fun x=>x) (fun x=>[.row (.stk n) 0 N N,.s (.int .i64 a),uu,uu,uu,uu,uu,uu,uu,uu,.s (.int .i64 (i:Nat)),.s (.int .i64 (x:Nat)),uu,uu,uu,uu,uu,uu,uu,uu,uu,uu,uu,uu,uu,uu,uu,uu,uu,uu,uu,uu,uu,uu,uu,uu,uu,uu,uu,uu,uu,uu,uu,uu,uu,uu,uu,uu,uu,uu,uu,uu,uu,uu,uu,uu,uu,uu,uu,uu,uu,uu,uu,uu,uu,uu,uu,uu,uu,uu,uu,uu,uu,uu,uu,uu,uu,uu,uu,uu,uu,uu,uu,uu,uu,uu,uu,uu,uu,uu,uu,uu,uu,uu,uu,uu,uu,uu,uu,uu,uu,uu,uu,uu,uu,uu,uu,uu,uu,uu,uu,uu,uu,uu,uu,uu,uu,uu,uu,uu,uu,uu,uu,uu,uu,uu,uu,uu,uu,uu,uu,uu,uu,uu,uu,uu,uu,uu,uu,uu,uu,uu,uu,uu,uu,uu,uu,uu,uu,uu,uu,uu,uu,uu,uu,uu,uu,uu,uu,uu,uu,uu,uu,uu,uu,uu,uu,uu]) (fun _=>S) (fun _=>H) (fun x=>x < N∧R=Sort.scanDown (fun x => !ltI x e[a]!) e i x) j ⟨hj,hR.symm⟩ hk (by rw [List.take_of_length_le (Nat.le_refl _)]) rfl (fun x _=>by simp [AV.under,AV.under.go,hn]) ?_
  rintro x ⟨hx,hinv⟩ ih
  by_cases hxj:i≤x
  case neg =>
    have hlt:¬((i:Int)≤(x:Int)):=by omega
    have hq:Sort.scanDown (fun x => !ltI x e[a]!) e i x=x:=by
      cases x with
      | zero=>rfl
      | succ x=>rw [Sort.scanDown,if_neg (by rw [Bool.and_eq_true,decide_eq_true_eq]; exact fun h=>hxj h.1)]
    rw [hinv,hq] at hX
    simp only [Cz6,A_,simprocAttr,ne_eq,(Uz8 _).1,hlt]
    exact hX _ _ _ _ _ _ _ _ _ _ _ _ _ _ _
  obtain ⟨y,rfl⟩:∃y,x=y + 1:=⟨x - 1,by omega⟩
  have hlt:((i:Int)≤((y + 1:Nat):Int)):=by omega
  have hw1:IntKind.i64.wrap (((y + 1:Nat):Int) - 1)=((y:Nat):Int):=by rw [wrap_i64 (by omega) (by omega)]; omega
  have x1:∀kk:IntKind,indexAddrL (.sl 1) (.row (.stk n) 0 N N) (.s (.int kk ((y + 1:Nat):Int)))=some (.ptr (.stk n) (y + 1)):=fun kk=>ixi (by omega)
  have x2:∀kk:IntKind,indexAddrL (.sl 1) (.row (.stk n) 0 N N) (.s (.int kk (a:Int)))=some (.ptr (.stk n) a):=fun kk=>ixi (by omega)
  have r1:=ird (H:=H) hS (i:=y + 1) (by omega)
  have r2:=ird (H:=H) hS (i:=a) (by omega)
  simp only [Cz6,A_,simprocAttr,ne_eq,(Uz8 _).1,hlt,x1,x2,r1,r2]
  refine h0 _ _ _ _ _ ?_
  cases hlk:ltI e[y + 1]! e[a]! with
  | true =>
    rw [Sort.scanDown,if_neg (by rw [Bool.and_eq_true,hlk]; simp)] at hinv
    rw [hinv] at hX
    simp only [Cz6,A_,simprocAttr,ne_eq,(Uz8 _).1]
    exact hX _ _ _ _ _ _ _ _ _ _ _ _ _ _ _
  | false =>
    rw [Sort.scanDown,if_pos (by rw [Bool.and_eq_true,hlk]; exact ⟨decide_eq_true hxj,rfl⟩)] at hinv
    simp only [Cz6,A_,simprocAttr,ne_eq,(Uz8 _).1,hw1]
    exact ih y _ _ _ (by omega) ⟨by omega,hinv⟩ (by simp [keep,zm]) (by rw [List.take_of_length_le (Nat.le_refl _)]) rfl
def PartS (C:CallW) (f:FuncId):Prop:=∀(n:Nat) (d:Array Int) (a b p:Nat) S H (K:AV→St→Prop),S[n]? = some (flat iA d)→a≤p→p < b→b≤d.size→d.size≤2305843009213693952→K (.tup [.s (.int .i64 (Sort.partition ltI d a b p).1),.s (.bool (Sort.partition ltI d a b p).2.1)]) ⟨S.set n (flat iA (Sort.partition ltI d a b p).2.2),H⟩→C (.fn f) [.row (.stk n) 0 d.size d.size,.s (.int .i64 a),.s (.int .i64 b),.s (.int .i64 p)] ⟨S,H⟩ K
set_option maxHeartbeats 16000000 in
theorem partition_spec {C:CallW} (hC:LeC C C) (P:Program) {c:Nat→FuncId} (h0:LessS C (c 0)):∀(n:Nat) (d:Array Int) (a b p:Nat) S H (K:AV→St→Prop),S[n]? = some (flat iA d)→a≤p→p < b→b≤d.size→d.size≤2305843009213693952→K (.tup [.s (.int .i64 (Sort.partition ltI d a b p).1),.s (.bool (Sort.partition ltI d a b p).2.1)]) ⟨S.set n (flat iA (Sort.partition ltI d a b p).2.2),H⟩→runL C P (Cz6 c) [.row (.stk n) 0 d.size d.size,.s (.int .i64 a),.s (.int .i64 b),.s (.int .i64 p)] ⟨S,H⟩ K:=by
  intro n d a b p S H K hS hap hpb hbd hdl hK
  have hn:=slt hS
  unfold Sort.partition at hK
  dsimp only at hK
  have hw0:IntKind.i64.wrap ((a:Int) + 1)=((a + 1:Nat):Int):=by rw [wrap_i64 (by omega) (by omega)]; omega
  have hw1:IntKind.i64.wrap ((b:Int) - 1)=((b - 1:Nat):Int):=by rw [wrap_i64 (by omega) (by omega)]; omega
  have xa:∀kk:IntKind,indexAddrL (.sl 1) (.row (.stk n) 0 d.size d.size) (.s (.int kk (a:Int)))=some (.ptr (.stk n) a):=fun kk=>ixi (by omega)
  have xb:∀kk:IntKind,indexAddrL (.sl 1) (.row (.stk n) 0 d.size d.size) (.s (.int kk (p:Int)))=some (.ptr (.stk n) p):=fun kk=>ixi (by omega)
  have ra:=ird (H:=H) hS (i:=a) (by omega)
  have rb:=ird (H:=H) hS (i:=p) (by omega)
  obtain ⟨wa,wb⟩:=sw2 (H:=H) hS (i:=a) (j:=p) (by omega) (by omega)
  simp only [Cz6,A_,simprocAttr,ne_eq,(Uz8 _).1,hw0,hw1,xa,xb,ra,rb,wa,wb]
  have hds:(Sort.swp d a p).size=d.size:=swp_size
  generalize Sort.swp d a p=d1 at hK hds ⊢
  clear xa xb ra rb wa wb
  refine y9r2_loop (a:=a) hC P h0 (sset hS) (by simp) hds (by omega) (j:=b - 1) (by omega) hdl (a + 1) _ (by omega) (by simp [keep,zm]) fun fr' hk' => ?_
  simp only [Cz6,A_,simprocAttr,ne_eq,(Uz8 _).1]
  obtain ⟨u1,u2⟩:=scanUp_bd (fun x=>ltI x d1[a]!) d1 (b - 1) _ (a + 1) (Nat.le_refl _)
  obtain ⟨i1,hi1⟩:∃i2,Sort.scanUp (fun x=>ltI x d1[a]!) d1 (b - 1) (a + 1)=i2:=⟨_,rfl⟩
  rw [hi1] at hk' u1 u2
  simp only [hi1] at hK
  refine y9r4_loop (a:=a) hC P h0 (sset hS) (by simp) hds (by omega) (by omega) hdl (b - 1) _ (by omega) hk' ?_
  have v1:=scanDown_le (fun x => !ltI x d1[a]!) d1 i1 (b - 1)
  obtain ⟨j1,hj1⟩:∃j2,Sort.scanDown (fun x => !ltI x d1[a]!) d1 i1 (b - 1)=j2:=⟨_,rfl⟩
  rw [hj1] at v1 ⊢
  simp only [hj1] at hK
  intro x46 x47 x48 x49 x50 x51 x52 x53 x54 x55 x56 x57 x58 x59 x60
  have hSd:(S.set n (flat iA d1))[n]? = some (flat iA d1):=sset hS
  by_cases hij:j1 < i1
  · have hlt:((j1:Int) < (i1:Int)):=by omega
    rw [if_pos hij] at hK
    have xa:∀kk:IntKind,indexAddrL (.sl 1) (.row (.stk n) 0 d.size d.size) (.s (.int kk (j1:Int)))=some (.ptr (.stk n) j1):=fun kk=>ixi (by omega)
    have xb:∀kk:IntKind,indexAddrL (.sl 1) (.row (.stk n) 0 d.size d.size) (.s (.int kk (a:Int)))=some (.ptr (.stk n) a):=fun kk=>ixi (by omega)
    have ra:=ird (H:=H) hSd (i:=j1) (by omega)
    have rb:=ird (H:=H) hSd (i:=a) (by omega)
    obtain ⟨wa,wb⟩:=sw2 (H:=H) hSd (i:=j1) (j:=a) (by omega) (by omega)
    rw [List.set_set] at wa wb
    rw [List.set_set] at wb
    simp only [Cz6,A_,simprocAttr,ne_eq,(Uz8 _).1,hlt,xa,xb,ra,rb,wa,wb]
    exact hK
  have hlt:¬((j1:Int) < (i1:Int)):=by omega
  rw [if_neg hij] at hK
  have hwi:IntKind.i64.wrap ((i1:Int) + 1)=((i1 + 1:Nat):Int):=by rw [wrap_i64 (by omega) (by omega)]; omega
  have hwj:IntKind.i64.wrap ((j1:Int) - 1)=((j1 - 1:Nat):Int):=by rw [wrap_i64 (by omega) (by omega)]; omega
  have xa:∀kk:IntKind,indexAddrL (.sl 1) (.row (.stk n) 0 d.size d.size) (.s (.int kk (i1:Int)))=some (.ptr (.stk n) i1):=fun kk=>ixi (by omega)
  have xb:∀kk:IntKind,indexAddrL (.sl 1) (.row (.stk n) 0 d.size d.size) (.s (.int kk (j1:Int)))=some (.ptr (.stk n) j1):=fun kk=>ixi (by omega)
  have ra:=ird (H:=H) hSd (i:=i1) (by omega)
  have rb:=ird (H:=H) hSd (i:=j1) (by omega)
  obtain ⟨wa,wb⟩:=sw2 (H:=H) hSd (i:=i1) (j:=j1) (by omega) (by omega)
  rw [List.set_set] at wa wb
  rw [List.set_set] at wb
  simp only [Cz6,A_,simprocAttr,ne_eq,(Uz8 _).1,hlt,xa,xb,ra,rb,wa,wb,hwi,hwj]
  have hgs:(Sort.swp d1 i1 j1).size=d.size:=by rw [swp_size]; exact hds
  generalize Sort.swp d1 i1 j1=g0 at hK hgs ⊢
  clear xa xb ra rb wa wb
  generalize hX:Sort.partLoop ltI a (i1 + 1) (j1 - 1) g0=X at hK
  refine loop_rule hC (α:=Nat×Nat×Array Int) (fun x=>x.2.1 + 1 - x.1) (fun x=>[.row (.stk n) 0 d.size d.size,.s (.int .i64 a),uu,uu,uu,uu,uu,uu,uu,uu,.s (.int .i64 (x.1:Nat)),.s (.int .i64 (x.2.1:Nat)),uu,uu,uu,uu,uu,uu,uu,uu,uu,uu,uu,uu,uu,uu,uu,uu,uu,uu,uu,uu,uu,uu,uu,uu,uu,uu,uu,uu,uu,uu,uu,uu,uu,uu,uu,uu,uu,uu,uu,uu,uu,uu,uu,uu,uu,uu,uu,uu,uu,uu,uu,uu,uu,uu,uu,uu,uu,uu,uu,uu,uu,uu,uu,uu,uu,uu,uu,uu,uu,uu,uu,uu,uu,uu,uu,uu,uu,uu,uu,uu,uu,uu,uu,uu,uu,uu,uu,uu,uu,uu,uu,uu,uu,uu,uu,uu,uu,uu,uu,uu,uu,uu,uu,uu,uu,uu,uu,uu,uu,uu,uu,uu,uu,uu,uu,uu,uu,uu,uu,uu,uu,uu,uu,uu,uu,uu,uu,uu,uu,uu,uu,uu,uu,uu,uu,uu,uu,uu,uu,uu,uu,uu,uu,uu,uu,uu,uu,uu,uu,uu,uu,uu,uu,uu,uu,uu]) (fun x=>S.set n (flat iA x.2.2)) (fun _=>H) (fun x=>1≤x.1∧x.1≤x.2.1 + 2∧x.2.1 < d.size∧x.2.2.size=d.size∧X=Sort.partLoop ltI a x.1 x.2.1 x.2.2) (i1 + 1,j1 - 1,g0) ⟨by dsimp only; omega,by dsimp only; omega,by dsimp only; omega,hgs,hX.symm⟩ (by simp [keep,zm]) (by rw [List.take_of_length_le]; simp) rfl (fun x _=>by simp [AV.under,AV.under.go,hn]) ?_
  rintro ⟨i,j,e⟩ ⟨h1,h2,hj,hes,hinv⟩ ih
  dsimp only at h1 h2 hj hes hinv ih ⊢
  simp only [Cz6,A_,simprocAttr,ne_eq,(Uz8 _).1]
  refine y9r8_loop (a:=a) hC P h0 (sset hS) (by simp) hes (by omega) hj hdl i _ h2 (by simp [keep,zm]) fun fr' hk' => ?_
  simp only [Cz6,A_,simprocAttr,ne_eq,(Uz8 _).1]
  obtain ⟨u1,u2⟩:=scanUp_bd (fun x=>ltI x e[a]!) e j _ i (Nat.le_refl _)
  obtain ⟨i2,hi2⟩:∃i2,Sort.scanUp (fun x=>ltI x e[a]!) e j i=i2:=⟨_,rfl⟩
  rw [hi2] at hk' u1 u2
  refine y9r10_loop (a:=a) hC P h0 (sset hS) (by simp) hes (by omega) (by omega) hdl j _ hj hk' ?_
  have v1:=scanDown_le (fun x => !ltI x e[a]!) e i2 j
  obtain ⟨j2,hj2⟩:∃j2,Sort.scanDown (fun x => !ltI x e[a]!) e i2 j=j2:=⟨_,rfl⟩
  rw [hj2] at v1 ⊢
  intro x115 x116 x117 x118 x119 x120 x121 x122 x123 x124 x125 x126 x127 x128 x129
  rw [Sort.partLoop] at hinv
  simp only [hi2,hj2] at hinv
  have hSe:(S.set n (flat iA e))[n]? = some (flat iA e):=sset hS
  by_cases hij:j2 < i2
  · have hlt:((j2:Int) < (i2:Int)):=by omega
    rw [if_pos hij] at hinv
    rw [hinv] at hK
    have xa:∀kk:IntKind,indexAddrL (.sl 1) (.row (.stk n) 0 d.size d.size) (.s (.int kk (j2:Int)))=some (.ptr (.stk n) j2):=fun kk=>ixi (by omega)
    have xb:∀kk:IntKind,indexAddrL (.sl 1) (.row (.stk n) 0 d.size d.size) (.s (.int kk (a:Int)))=some (.ptr (.stk n) a):=fun kk=>ixi (by omega)
    have ra:=ird (H:=H) hSe (i:=j2) (by omega)
    have rb:=ird (H:=H) hSe (i:=a) (by omega)
    obtain ⟨wa,wb⟩:=sw2 (H:=H) hSe (i:=j2) (j:=a) (by omega) (by omega)
    rw [List.set_set] at wa wb
    rw [List.set_set] at wb
    simp only [Cz6,A_,simprocAttr,ne_eq,(Uz8 _).1,hlt,xa,xb,ra,rb,wa,wb]
    exact hK
  have hlt:¬((j2:Int) < (i2:Int)):=by omega
  rw [if_neg hij,dif_pos (by omega)] at hinv
  have hwi:IntKind.i64.wrap ((i2:Int) + 1)=((i2 + 1:Nat):Int):=by rw [wrap_i64 (by omega) (by omega)]; omega
  have hwj:IntKind.i64.wrap ((j2:Int) - 1)=((j2 - 1:Nat):Int):=by rw [wrap_i64 (by omega) (by omega)]; omega
  have xa:∀kk:IntKind,indexAddrL (.sl 1) (.row (.stk n) 0 d.size d.size) (.s (.int kk (i2:Int)))=some (.ptr (.stk n) i2):=fun kk=>ixi (by omega)
  have xb:∀kk:IntKind,indexAddrL (.sl 1) (.row (.stk n) 0 d.size d.size) (.s (.int kk (j2:Int)))=some (.ptr (.stk n) j2):=fun kk=>ixi (by omega)
  have ra:=ird (H:=H) hSe (i:=i2) (by omega)
  have rb:=ird (H:=H) hSe (i:=j2) (by omega)
  obtain ⟨wa,wb⟩:=sw2 (H:=H) hSe (i:=i2) (j:=j2) (by omega) (by omega)
  rw [List.set_set] at wa wb
  rw [List.set_set] at wb
  simp only [Cz6,A_,simprocAttr,ne_eq,(Uz8 _).1,hlt,xa,xb,ra,rb,wa,wb,hwi,hwj]
  exact ih (i2 + 1,j2 - 1,Sort.swp e i2 j2) _ _ _ (by dsimp only; omega) ⟨by dsimp only; omega,by dsimp only; omega,by dsimp only; omega,by rw [swp_size]; exact hes,hinv⟩ (by simp [keep,zm]) (by rw [List.take_of_length_le]; simp) rfl
end Go.AM
namespace Go.AM
open Go
open AV renaming undef → uu
set_option maxRecDepth 20000
theorem shiftDown_size:∀(j:Nat) (d:Array Int),(Sort.shiftDown ltI j d).size=d.size
  | 0,d=>rfl
  | j + 1,d=>by
    rw [Sort.shiftDown]
    split
    · rfl
    · rw [shiftDown_size j,swp_size]
theorem shiftUp_size (b:Nat):∀(m j:Nat) (d:Array Int),b - j≤m→(Sort.shiftUp ltI b j d).size=d.size:=by
  intro m
  induction m with
  | zero=>intro j d h; rw [Sort.shiftUp,if_neg (by omega)]
  | succ m ih =>
    intro j d h
    rw [Sort.shiftUp]
    split
    · split
      · rfl
      · rw [ih _ _ (by omega),swp_size]
    · rfl
theorem scanSorted_bd (d:Array Int) (b:Nat):∀(m i:Nat),b - i≤m→i≤b→i≤Sort.scanSorted ltI d b i∧Sort.scanSorted ltI d b i≤b:=by
  intro m
  induction m with
  | zero=>intro i h hi; rw [Sort.scanSorted,if_neg (by rw [Bool.and_eq_true,decide_eq_true_eq]; exact fun h=>by omega)]; exact ⟨Nat.le_refl _,hi⟩
  | succ m ih =>
    intro i h hi
    rw [Sort.scanSorted]
    split
    · rename_i h1
      rw [Bool.and_eq_true,decide_eq_true_eq] at h1
      have:=ih (i + 1) (by omega) (by omega)
      omega
    · exact ⟨Nat.le_refl _,hi⟩
set_option maxHeartbeats 16000000 in
theorem y9p2_loop {C:CallW} (hC:LeC C C) (P:Program) {c:Nat→FuncId} (h0:LessS C (c 0)) {n a b N st n0:Nat} {e:Array Int} {S:List (List AV)} {H:List HObj} {is:List Item} {K:KC} (hS:S[n]? = some (flat iA e)) (hn0:n0=S.length) (hN:e.size=N) (hb:b≤N) (hl:N≤2305843009213693952):∀(i:Nat) (fr:Fr),1≤i→i≤b→keep (zm false [0,3,4,2,124]) fr=[.row (.stk n) 0 N N,.s (.int .i64 (a:Nat)),.s (.int .i64 (b:Nat)),uu,uu,uu,uu,.s (.int .i64 (i:Nat)),.s (.int .i64 (st:Nat)),uu,uu,uu,uu,uu,uu,uu,uu,uu,uu,uu,uu,uu,uu,uu,uu,uu,uu,uu,uu,uu,uu,uu,uu,uu,uu,uu,uu,uu,uu,uu,uu,uu,uu,uu,uu,uu,uu,uu,uu,uu,uu,uu,uu,uu,uu,uu,uu,uu,uu,uu,uu,uu,uu,uu,uu,uu,uu,uu,uu,uu,uu,uu,uu,uu,uu,uu,uu,uu,uu,uu,uu,uu,uu,uu,uu,uu,uu,uu,uu,uu,uu,uu,uu,uu,uu,uu,uu,uu,uu,uu,uu,uu,uu,uu,uu,uu,uu,uu,uu,uu,uu,uu,uu,uu,uu,uu,uu,uu,uu,uu,uu,uu,uu,uu,uu,uu,uu,uu,uu,uu,uu,uu,uu]→(∀x17 x18 x19 x20 x21 x22 x23 x24 x25 x26 x27 x28 x29 x30 x31 x32:AV,nxt C P false is [.row (.stk n) 0 N N,.s (.int .i64 (a:Nat)),.s (.int .i64 (b:Nat)),uu,uu,uu,uu,.s (.int .i64 (Sort.scanSorted ltI e b i:Nat)),.s (.int .i64 (st:Nat)),uu,uu,uu,uu,uu,uu,uu,uu,x17,x18,x19,x20,x21,x22,x23,x24,x25,x26,x27,x28,x29,x30,x31,x32,uu,uu,uu,uu,uu,uu,uu,uu,uu,uu,uu,uu,uu,uu,uu,uu,uu,uu,uu,uu,uu,uu,uu,uu,uu,uu,uu,uu,uu,uu,uu,uu,uu,uu,uu,uu,uu,uu,uu,uu,uu,uu,uu,uu,uu,uu,uu,uu,uu,uu,uu,uu,uu,uu,uu,uu,uu,uu,uu,uu,uu,uu,uu,uu,uu,uu,uu,uu,uu,uu,uu,uu,uu,uu,uu,uu,uu,uu,uu,uu,uu,uu,uu,uu,uu,uu,uu,uu,uu,uu,uu,uu,uu,uu,uu,uu,uu,uu,uu,uu] ⟨S,H⟩ K)→runLp C P false (zm false [0,3,4,2,124]) (y9p2 c) n0 (.blk 2 :: is) fr ⟨S,H⟩ K:=by
  intro i fr hi1 hi hk hX
  generalize hR:Sort.scanSorted ltI e b i=R at hX
  subst hn0
  have hn:=slt hS
  refine loop_rule hC (α:=Nat) (fun x=>b - x) (fun x=>[.row (.stk n) 0 N N,.s (.int .i64 (a:Nat)),.s (.int .i64 (b:Nat)),uu,uu,uu,uu,.s (.int .i64 (x:Nat)),.s (.int .i64 (st:Nat)),uu,uu,uu,uu,uu,uu,uu,uu,uu,uu,uu,uu,uu,uu,uu,uu,uu,uu,uu,uu,uu,uu,uu,uu,uu,uu,uu,uu,uu,uu,uu,uu,uu,uu,uu,uu,uu,uu,uu,uu,uu,uu,uu,uu,uu,uu,uu,uu,uu,uu,uu,uu,uu,uu,uu,uu,uu,uu,uu,uu,uu,uu,uu,uu,uu,uu,uu,uu,uu,uu,uu,uu,uu,uu,uu,uu,uu,uu,uu,uu,uu,uu,uu,uu,uu,uu,uu,uu,uu,uu,uu,uu,uu,uu,uu,uu,uu,uu,uu,uu,uu,uu,uu,uu,uu,uu,uu,uu,uu,uu,uu,uu,uu,uu,uu,uu,uu,uu,uu,uu,uu,uu,uu,uu]) (fun _=>S) (fun _=>H) (fun x=>1≤x∧x≤b∧R=Sort.scanSorted ltI e b x) i ⟨hi1,hi,hR.symm⟩ hk (by rw [List.take_of_length_le (Nat.le_refl _)]) rfl (fun x _=>by simp [AV.under,AV.under.go,hn]) ?_
  rintro x ⟨hx1,hx,hinv⟩ ih
  by_cases hxb:x < b
  case neg =>
    have hlt:¬((x:Int) < (b:Int)):=by omega
    rw [Sort.scanSorted,if_neg (by rw [Bool.and_eq_true,decide_eq_true_eq]; exact fun h=>hxb h.1)] at hinv
    rw [hinv] at hX
    simp only [Cz0,A_,simprocAttr,ne_eq,(Uz3 _).1,hlt]
    exact hX _ _ _ _ _ _ _ _ _ _ _ _ _ _ _ _
  have hlt:((x:Int) < (b:Int)):=by omega
  obtain ⟨y,rfl⟩:∃y,x=y + 1:=⟨x - 1,by omega⟩
  have hw0:IntKind.i64.wrap (((y + 1:Nat):Int) - 1)=((y:Nat):Int):=by rw [wrap_i64 (by omega) (by omega)]; omega
  have hw1:IntKind.i64.wrap (((y + 1:Nat):Int) + 1)=((y + 1 + 1:Nat):Int):=by rw [wrap_i64 (by omega) (by omega)]; omega
  have x1:∀kk:IntKind,indexAddrL (.sl 1) (.row (.stk n) 0 N N) (.s (.int kk ((y + 1:Nat):Int)))=some (.ptr (.stk n) (y + 1)):=fun kk=>ixi (by omega)
  have x2:∀kk:IntKind,indexAddrL (.sl 1) (.row (.stk n) 0 N N) (.s (.int kk ((y:Nat):Int)))=some (.ptr (.stk n) y):=fun kk=>ixi (by omega)
  have r1:=ird (H:=H) hS (i:=y + 1) (by omega)
  have r2:=ird (H:=H) hS (i:=y) (by omega)
  simp only [Cz0,A_,simprocAttr,ne_eq,(Uz3 _).1,hlt,hw0,x1,x2,r1,r2]
  refine h0 _ _ _ _ _ ?_
  cases hlk:ltI e[y + 1]! e[y]! with
  | true =>
    rw [Sort.scanSorted,if_neg (by rw [Nat.add_sub_cancel,Bool.and_eq_true,hlk]; simp)] at hinv
    rw [hinv] at hX
    simp only [Cz0,A_,simprocAttr,ne_eq,(Uz3 _).1]
    exact hX _ _ _ _ _ _ _ _ _ _ _ _ _ _ _ _
  | false =>
    rw [Sort.scanSorted,if_pos (by rw [Nat.add_sub_cancel,Bool.and_eq_true,hlk]; exact ⟨decide_eq_true hxb,rfl⟩)] at hinv
    simp only [Cz0,A_,simprocAttr,ne_eq,(Uz3 _).1,hw1]
    exact ih (y + 1 + 1) _ _ _ (by omega) ⟨by omega,by omega,hinv⟩ (by simp [keep,zm]; omega) (by rw [List.take_of_length_le (Nat.le_refl _)]) rfl
set_option maxHeartbeats 16000000 in
theorem y9p6_loop {C:CallW} (hC:LeC C C) (P:Program) {c:Nat→FuncId} (h0:LessS C (c 0)) {n a b i N st n0:Nat} {S:List (List AV)} {H:List HObj} {is:List Item} {K:KC} (hn:n < S.length) (hn0:n0=S.length) (hl:N≤2305843009213693952):∀(j:Nat) (d:Array Int) (fr:Fr),j < N→d.size=N→keep (zm false [0,3,4,3,123]) fr=[.row (.stk n) 0 N N,.s (.int .i64 (a:Nat)),.s (.int .i64 (b:Nat)),uu,uu,uu,uu,.s (.int .i64 (i:Nat)),.s (.int .i64 (st:Nat)),.s (.int .i64 (j:Nat)),uu,uu,uu,uu,uu,uu,uu,uu,uu,uu,uu,uu,uu,uu,uu,uu,uu,uu,uu,uu,uu,uu,uu,uu,uu,uu,uu,uu,uu,uu,uu,uu,uu,uu,uu,uu,uu,uu,uu,uu,uu,uu,uu,uu,uu,uu,uu,uu,uu,uu,uu,uu,uu,uu,uu,uu,uu,uu,uu,uu,uu,uu,uu,uu,uu,uu,uu,uu,uu,uu,uu,uu,uu,uu,uu,uu,uu,uu,uu,uu,uu,uu,uu,uu,uu,uu,uu,uu,uu,uu,uu,uu,uu,uu,uu,uu,uu,uu,uu,uu,uu,uu,uu,uu,uu,uu,uu,uu,uu,uu,uu,uu,uu,uu,uu,uu,uu,uu,uu,uu,uu,uu,uu]→(∀x9 x64 x65 x66 x67 x68 x69 x70 x71 x72 x73 x74 x75 x76 x77 x78:AV,nxt C P false is [.row (.stk n) 0 N N,.s (.int .i64 (a:Nat)),.s (.int .i64 (b:Nat)),uu,uu,uu,uu,.s (.int .i64 (i:Nat)),.s (.int .i64 (st:Nat)),x9,uu,uu,uu,uu,uu,uu,uu,uu,uu,uu,uu,uu,uu,uu,uu,uu,uu,uu,uu,uu,uu,uu,uu,uu,uu,uu,uu,uu,uu,uu,uu,uu,uu,uu,uu,uu,uu,uu,uu,uu,uu,uu,uu,uu,uu,uu,uu,uu,uu,uu,uu,uu,uu,uu,x64,x65,x66,x67,x68,x69,x70,x71,x72,x73,x74,x75,x76,x77,x78,uu,uu,uu,uu,uu,uu,uu,uu,uu,uu,uu,uu,uu,uu,uu,uu,uu,uu,uu,uu,uu,uu,uu,uu,uu,uu,uu,uu,uu,uu,uu,uu,uu,uu,uu,uu,uu,uu,uu,uu,uu,uu,uu,uu,uu,uu,uu,uu,uu,uu,uu,uu,uu,uu] ⟨S.set n (flat iA (Sort.shiftDown ltI j d)),H⟩ K)→runLp C P false (zm false [0,3,4,3,123]) (y9p6 c) n0 (.blk 4 :: is) fr ⟨S.set n (flat iA d),H⟩ K:=by
  intro j d fr hj hd hk hX
  generalize hR:Sort.shiftDown ltI j d=R at hX
  subst hn0
  obtain ⟨z,hz⟩:∃z,S[n]? = some z:=⟨_,List.getElem?_eq_getElem hn⟩
  refine loop_rule hC (α:=Nat×Array Int) (fun x=>x.1) (fun x=>[.row (.stk n) 0 N N,.s (.int .i64 (a:Nat)),.s (.int .i64 (b:Nat)),uu,uu,uu,uu,.s (.int .i64 (i:Nat)),.s (.int .i64 (st:Nat)),.s (.int .i64 (x.1:Nat)),uu,uu,uu,uu,uu,uu,uu,uu,uu,uu,uu,uu,uu,uu,uu,uu,uu,uu,uu,uu,uu,uu,uu,uu,uu,uu,uu,uu,uu,uu,uu,uu,uu,uu,uu,uu,uu,uu,uu,uu,uu,uu,uu,uu,uu,uu,uu,uu,uu,uu,uu,uu,uu,uu,uu,uu,uu,uu,uu,uu,uu,uu,uu,uu,uu,uu,uu,uu,uu,uu,uu,uu,uu,uu,uu,uu,uu,uu,uu,uu,uu,uu,uu,uu,uu,uu,uu,uu,uu,uu,uu,uu,uu,uu,uu,uu,uu,uu,uu,uu,uu,uu,uu,uu,uu,uu,uu,uu,uu,uu,uu,uu,uu,uu,uu,uu,uu,uu,uu,uu,uu,uu,uu]) (fun x=>S.set n (flat iA x.2)) (fun _=>H) (fun x=>x.1 < N∧x.2.size=N∧R=Sort.shiftDown ltI x.1 x.2) (j,d) ⟨hj,hd,hR.symm⟩ hk (by rw [List.take_of_length_le]; simp) rfl (fun x _=>by simp [AV.under,AV.under.go,hn]) ?_
  rintro ⟨x,e⟩ ⟨hx,hes,hinv⟩ ih
  dsimp only at hx hes hinv ih ⊢
  have hSe:(S.set n (flat iA e))[n]? = some (flat iA e):=sset hz
  cases x with
  | zero =>
    have hlt:((1:Int)≤((0:Nat):Int))=False:=eq_false (by omega)
    have hlt2:((1:Int)≤0)=False:=eq_false (by omega)
    rw [Sort.shiftDown] at hinv
    rw [hinv] at hX
    simp only [Cz0,A_,simprocAttr,ne_eq,(Uz3 _).1,hlt,hlt2]
    exact hX _ _ _ _ _ _ _ _ _ _ _ _ _ _ _ _
  | succ y =>
    have hlt:((1:Int)≤((y + 1:Nat):Int))=True:=eq_true (by omega)
    have hw0:IntKind.i64.wrap (((y + 1:Nat):Int) - 1)=((y:Nat):Int):=by rw [wrap_i64 (by omega) (by omega)]; omega
    have xa:∀kk:IntKind,indexAddrL (.sl 1) (.row (.stk n) 0 N N) (.s (.int kk ((y + 1:Nat):Int)))=some (.ptr (.stk n) (y + 1)):=fun kk=>ixi (by omega)
    have xb:∀kk:IntKind,indexAddrL (.sl 1) (.row (.stk n) 0 N N) (.s (.int kk ((y:Nat):Int)))=some (.ptr (.stk n) (y)):=fun kk=>ixi (by omega)
    have ra:=ird (H:=H) hSe (i:=y + 1) (by omega)
    have rb:=ird (H:=H) hSe (i:=y) (by omega)
    obtain ⟨wa,wb⟩:=sw2 (H:=H) hSe (i:=y + 1) (j:=y) (by omega) (by omega)
    rw [List.set_set] at wa wb
    rw [List.set_set] at wb
    simp only [Cz0,A_,simprocAttr,ne_eq,(Uz3 _).1,hlt,hw0,xa,xb,ra,rb]
    refine h0 _ _ _ _ _ ?_
    rw [Sort.shiftDown] at hinv
    cases hlk:ltI e[y + 1]! e[y]! with
    | false =>
      rw [hlk,if_pos (by rfl)] at hinv
      rw [hinv] at hX
      simp only [Cz0,A_,simprocAttr,ne_eq,(Uz3 _).1]
      exact hX _ _ _ _ _ _ _ _ _ _ _ _ _ _ _ _
    | true =>
      rw [hlk,if_neg (by simp)] at hinv
      simp only [Cz0,A_,simprocAttr,ne_eq,(Uz3 _).1,hw0,xa,xb,ra,rb,wa,wb]
      exact ih (y,Sort.swp e (y + 1) y) _ _ _ (by dsimp only; omega) ⟨by dsimp only; omega,by rw [swp_size]; exact hes,hinv⟩ (by simp [keep,zm]) (by rw [List.take_of_length_le]; simp) rfl
set_option maxHeartbeats 16000000 in
theorem y9p12_loop {C:CallW} (hC:LeC C C) (P:Program) {c:Nat→FuncId} (h0:LessS C (c 0)) {n a b i N st n0:Nat} {S:List (List AV)} {H:List HObj} {is:List Item} {K:KC} (hn:n < S.length) (hn0:n0=S.length) (hb:b≤N) (hl:N≤2305843009213693952):∀(j:Nat) (d:Array Int) (fr:Fr),1≤j→j≤b→d.size=N→keep (zm false [0,3,4,2,1,1,122]) fr=[.row (.stk n) 0 N N,.s (.int .i64 (a:Nat)),.s (.int .i64 (b:Nat)),uu,uu,uu,uu,.s (.int .i64 (i:Nat)),.s (.int .i64 (st:Nat)),.undef,.s (.int .i64 (j:Nat)),uu,uu,uu,uu,uu,uu,uu,uu,uu,uu,uu,uu,uu,uu,uu,uu,uu,uu,uu,uu,uu,uu,uu,uu,uu,uu,uu,uu,uu,uu,uu,uu,uu,uu,uu,uu,uu,uu,uu,uu,uu,uu,uu,uu,uu,uu,uu,uu,uu,uu,uu,uu,uu,uu,uu,uu,uu,uu,uu,uu,uu,uu,uu,uu,uu,uu,uu,uu,uu,uu,uu,uu,uu,uu,uu,uu,uu,uu,uu,uu,uu,uu,uu,uu,uu,uu,uu,uu,uu,uu,uu,uu,uu,uu,uu,uu,uu,uu,uu,uu,uu,uu,uu,uu,uu,uu,uu,uu,uu,uu,uu,uu,uu,uu,uu,uu,uu,uu,uu,uu,uu,uu]→(∀x10 x101 x102 x103 x104 x105 x106 x107 x108 x109 x110 x111 x112 x113 x114 x115 x116:AV,nxt C P false is [.row (.stk n) 0 N N,.s (.int .i64 (a:Nat)),.s (.int .i64 (b:Nat)),uu,uu,uu,uu,.s (.int .i64 (i:Nat)),.s (.int .i64 (st:Nat)),.undef,x10,uu,uu,uu,uu,uu,uu,uu,uu,uu,uu,uu,uu,uu,uu,uu,uu,uu,uu,uu,uu,uu,uu,uu,uu,uu,uu,uu,uu,uu,uu,uu,uu,uu,uu,uu,uu,uu,uu,uu,uu,uu,uu,uu,uu,uu,uu,uu,uu,uu,uu,uu,uu,uu,uu,uu,uu,uu,uu,uu,uu,uu,uu,uu,uu,uu,uu,uu,uu,uu,uu,uu,uu,uu,uu,uu,uu,uu,uu,uu,uu,uu,uu,uu,uu,uu,uu,uu,uu,uu,uu,x101,x102,x103,x104,x105,x106,x107,x108,x109,x110,x111,x112,x113,x114,x115,x116,uu,uu,uu,uu,uu,uu,uu,uu,uu,uu,uu,uu,uu,uu,uu,uu] ⟨S.set n (flat iA (Sort.shiftUp ltI b j d)),H⟩ K)→runLp C P false (zm false [0,3,4,2,1,1,122]) (y9p12 c) n0 (.blk 6 :: is) fr ⟨S.set n (flat iA d),H⟩ K:=by
  intro j d fr hj1 hj hd hk hX
  generalize hR:Sort.shiftUp ltI b j d=R at hX
  subst hn0
  obtain ⟨z,hz⟩:∃z,S[n]? = some z:=⟨_,List.getElem?_eq_getElem hn⟩
  refine loop_rule hC (α:=Nat×Array Int) (fun x=>b - x.1) (fun x=>[.row (.stk n) 0 N N,.s (.int .i64 (a:Nat)),.s (.int .i64 (b:Nat)),uu,uu,uu,uu,.s (.int .i64 (i:Nat)),.s (.int .i64 (st:Nat)),.undef,.s (.int .i64 (x.1:Nat)),uu,uu,uu,uu,uu,uu,uu,uu,uu,uu,uu,uu,uu,uu,uu,uu,uu,uu,uu,uu,uu,uu,uu,uu,uu,uu,uu,uu,uu,uu,uu,uu,uu,uu,uu,uu,uu,uu,uu,uu,uu,uu,uu,uu,uu,uu,uu,uu,uu,uu,uu,uu,uu,uu,uu,uu,uu,uu,uu,uu,uu,uu,uu,uu,uu,uu,uu,uu,uu,uu,uu,uu,uu,uu,uu,uu,uu,uu,uu,uu,uu,uu,uu,uu,uu,uu,uu,uu,uu,uu,uu,uu,uu,uu,uu,uu,uu,uu,uu,uu,uu,uu,uu,uu,uu,uu,uu,uu,uu,uu,uu,uu,uu,uu,uu,uu,uu,uu,uu,uu,uu,uu]) (fun x=>S.set n (flat iA x.2)) (fun _=>H) (fun x=>1≤x.1∧x.1≤b∧x.2.size=N∧R=Sort.shiftUp ltI b x.1 x.2) (j,d) ⟨hj1,hj,hd,hR.symm⟩ hk (by rw [List.take_of_length_le]; simp) rfl (fun x _=>by simp [AV.under,AV.under.go,hn]) ?_
  rintro ⟨x,e⟩ ⟨hx1,hx,hes,hinv⟩ ih
  dsimp only at hx1 hx hes hinv ih ⊢
  have hSe:(S.set n (flat iA e))[n]? = some (flat iA e):=sset hz
  rw [Sort.shiftUp] at hinv
  by_cases hxb:x < b
  case neg =>
    have hlt:¬((x:Int) < (b:Int)):=by omega
    rw [if_neg hxb] at hinv
    rw [hinv] at hX
    simp only [Cz0,A_,simprocAttr,ne_eq,(Uz3 _).1,hlt]
    exact hX _ _ _ _ _ _ _ _ _ _ _ _ _ _ _ _ _
  have hlt:((x:Int) < (b:Int)):=by omega
  rw [if_pos hxb] at hinv
  obtain ⟨y,rfl⟩:∃y,x=y + 1:=⟨x - 1,by omega⟩
  rw [Nat.add_sub_cancel] at hinv
  have hw0:IntKind.i64.wrap (((y + 1:Nat):Int) - 1)=((y:Nat):Int):=by rw [wrap_i64 (by omega) (by omega)]; omega
  have hw1:IntKind.i64.wrap (((y + 1:Nat):Int) + 1)=((y + 1 + 1:Nat):Int):=by rw [wrap_i64 (by omega) (by omega)]; omega
  have xa:∀kk:IntKind,indexAddrL (.sl 1) (.row (.stk n) 0 N N) (.s (.int kk ((y + 1:Nat):Int)))=some (.ptr (.stk n) (y + 1)):=fun kk=>ixi (by omega)
  have xb:∀kk:IntKind,indexAddrL (.sl 1) (.row (.stk n) 0 N N) (.s (.int kk ((y:Nat):Int)))=some (.ptr (.stk n) (y)):=fun kk=>ixi (by omega)
  have ra:=ird (H:=H) hSe (i:=y + 1) (by omega)
  have rb:=ird (H:=H) hSe (i:=y) (by omega)
  obtain ⟨wa,wb⟩:=sw2 (H:=H) hSe (i:=y + 1) (j:=y) (by omega) (by omega)
  rw [List.set_set] at wa wb
  rw [List.set_set] at wb
  simp only [Cz0,A_,simprocAttr,ne_eq,(Uz3 _).1,hlt,hw0,xa,xb,ra,rb]
  refine h0 _ _ _ _ _ ?_
  cases hlk:ltI e[y + 1]! e[y]! with
  | false =>
    rw [hlk,if_pos (by rfl)] at hinv
    rw [hinv] at hX
    simp only [Cz0,A_,simprocAttr,ne_eq,(Uz3 _).1]
    exact hX _ _ _ _ _ _ _ _ _ _ _ _ _ _ _ _ _
  | true =>
    rw [hlk,if_neg (by simp)] at hinv
    simp only [Cz0,A_,simprocAttr,ne_eq,(Uz3 _).1,hw0,hw1,xa,xb,ra,rb,wa,wb]
    exact ih (y + 1 + 1,Sort.swp e (y + 1) y) _ _ _ (by dsimp only; omega) ⟨by dsimp only; omega,by dsimp only; omega,by rw [swp_size]; exact hes,hinv⟩ (by simp [keep,zm]; omega) (by rw [List.take_of_length_le]; simp) rfl
def PinS (C:CallW) (f:FuncId):Prop:=∀(n:Nat) (d:Array Int) (a b:Nat) S H (K:AV→St→Prop),S[n]? = some (flat iA d)→a < b→b≤d.size→d.size≤2305843009213693952→K (.bool (Sort.partialInsertionSort ltI d a b).2) ⟨S.set n (flat iA (Sort.partialInsertionSort ltI d a b).1),H⟩→C (.fn f) [.row (.stk n) 0 d.size d.size,.s (.int .i64 a),.s (.int .i64 b)] ⟨S,H⟩ K
set_option maxHeartbeats 16000000 in
theorem partialIns_spec {C:CallW} (hC:LeC C C) (P:Program) {c:Nat→FuncId} (h0:LessS C (c 0)):∀(n:Nat) (d:Array Int) (a b:Nat) S H (K:AV→St→Prop),S[n]? = some (flat iA d)→a < b→b≤d.size→d.size≤2305843009213693952→K (.bool (Sort.partialInsertionSort ltI d a b).2) ⟨S.set n (flat iA (Sort.partialInsertionSort ltI d a b).1),H⟩→runL C P (Cz0 c) [.row (.stk n) 0 d.size d.size,.s (.int .i64 a),.s (.int .i64 b)] ⟨S,H⟩ K:=by
  intro n d a b S H K hS hab hbd hdl hK
  have hn:=slt hS
  unfold Sort.partialInsertionSort at hK
  generalize hX:Sort.partialIns ltI a b 5 (a + 1) d=X at hK
  have hw0:IntKind.i64.wrap ((a:Int) + 1)=((a + 1:Nat):Int):=by rw [wrap_i64 (by omega) (by omega)]; omega
  obtain ⟨N,hN⟩:∃N,d.size=N:=⟨_,rfl⟩
  rw [hN] at hbd hdl ⊢
  simp only [Cz0,A_,simprocAttr,ne_eq,(Uz3 _).1,hw0]
  refine loop_rule hC (α:=Nat×Nat×Array Int) (fun x=>x.1) (fun x=>[.row (.stk n) 0 N N,.s (.int .i64 (a:Nat)),.s (.int .i64 (b:Nat)),uu,uu,uu,uu,.s (.int .i64 (x.2.1:Nat)),.s (.int .i64 ((5 - x.1:Nat):Int)),uu,uu,uu,uu,uu,uu,uu,uu,uu,uu,uu,uu,uu,uu,uu,uu,uu,uu,uu,uu,uu,uu,uu,uu,uu,uu,uu,uu,uu,uu,uu,uu,uu,uu,uu,uu,uu,uu,uu,uu,uu,uu,uu,uu,uu,uu,uu,uu,uu,uu,uu,uu,uu,uu,uu,uu,uu,uu,uu,uu,uu,uu,uu,uu,uu,uu,uu,uu,uu,uu,uu,uu,uu,uu,uu,uu,uu,uu,uu,uu,uu,uu,uu,uu,uu,uu,uu,uu,uu,uu,uu,uu,uu,uu,uu,uu,uu,uu,uu,uu,uu,uu,uu,uu,uu,uu,uu,uu,uu,uu,uu,uu,uu,uu,uu,uu,uu,uu,uu,uu,uu,uu,uu,uu]) (fun x=>S.set n (flat iA x.2.2)) (fun _=>H) (fun x=>x.1≤5∧1≤x.2.1∧a < x.2.1∧x.2.1≤b∧x.2.2.size=N∧X=Sort.partialIns ltI a b x.1 x.2.1 x.2.2) (5,a + 1,d) ⟨by dsimp only; omega,by dsimp only; omega,by dsimp only; omega,by dsimp only; omega,hN,hX.symm⟩ (by simp [keep,zm]) (by rw [sself hS,List.take_of_length_le (Nat.le_refl _)]) rfl (fun x _=>by simp [AV.under,AV.under.go,hn]) ?_
  rintro ⟨s,i,e⟩ ⟨hs,hi1,hai,hi,hes,hinv⟩ ih
  dsimp only at hs hi1 hai hi hes hinv ih ⊢
  cases s with
  | zero =>
    have hlt:(((5 - 0:Nat):Int) < 5)=False:=eq_false (by omega)
    have hlt2:(((5:Nat):Int) < 5)=False:=eq_false (by omega)
    rw [Sort.partialIns] at hinv
    rw [hinv] at hK
    simp only [Cz0,A_,simprocAttr,ne_eq,(Uz3 _).1,hlt,hlt2]
    exact hK
  | succ s =>
    obtain ⟨st,hst⟩:∃st,5 - (s + 1)=st:=⟨_,rfl⟩
    have hlt:((st:Int) < 5)=True:=eq_true (by omega)
    have hws:IntKind.i64.wrap ((st:Int) + 1)=((5 - s:Nat):Int):=by rw [wrap_i64 (by omega) (by omega)]; omega
    rw [Sort.partialIns] at hinv
    dsimp only at hinv
    simp only [Cz0,A_,simprocAttr,ne_eq,(Uz3 _).1,hst,hlt]
    refine y9p2_loop (a:=a) (b:=b) (st:=st) hC P h0 (sset hS) (by simp) hes hbd hdl i _ hi1 hi (by simp [keep,zm]) ?_
    obtain ⟨u1,u2⟩:=scanSorted_bd e b _ i (Nat.le_refl _) hi
    obtain ⟨k,hk⟩:∃k,Sort.scanSorted ltI e b i=k:=⟨_,rfl⟩
    rw [hk] at u1 u2 ⊢
    simp only [hk] at hinv
    intro x17 x18 x19 x20 x21 x22 x23 x24 x25 x26 x27 x28 x29 x30 x31 x32
    by_cases hkb:k=b
    · have hlt3:((k:Int)=(b:Int))=True:=eq_true (by omega)
      rw [if_pos hkb] at hinv
      rw [hinv] at hK
      simp only [Cz0,A_,simprocAttr,ne_eq,(Uz3 _).1,hlt3]
      exact hK
    have hlt3:((k:Int)=(b:Int))=False:=eq_false (by omega)
    rw [if_neg hkb] at hinv
    have hwb:IntKind.i64.wrap ((b:Int) - (a:Int))=((b - a:Nat):Int):=by rw [wrap_i64 (by omega) (by omega)]; omega
    by_cases h50:b - a < 50
    · have hlt4:(((b - a:Nat):Int) < 50)=True:=eq_true (by omega)
      rw [if_pos h50] at hinv
      rw [hinv] at hK
      simp only [Cz0,A_,simprocAttr,ne_eq,(Uz3 _).1,hlt3,hwb,hlt4]
      exact hK
    have hlt4:(((b - a:Nat):Int) < 50)=False:=eq_false (by omega)
    rw [if_neg h50] at hinv
    have hSe:(S.set n (flat iA e))[n]? = some (flat iA e):=sset hS
    have hwk:IntKind.i64.wrap ((k:Int) - 1)=((k - 1:Nat):Int):=by rw [wrap_i64 (by omega) (by omega)]; omega
    have hwk2:IntKind.i64.wrap ((k:Int) + 1)=((k + 1:Nat):Int):=by rw [wrap_i64 (by omega) (by omega)]; omega
    have hwka:IntKind.i64.wrap ((k:Int) - (a:Int))=((k - a:Nat):Int):=by rw [wrap_i64 (by omega) (by omega)]; omega
    have hwbk:IntKind.i64.wrap ((b:Int) - (k:Int))=((b - k:Nat):Int):=by rw [wrap_i64 (by omega) (by omega)]; omega
    have xa:∀kk:IntKind,indexAddrL (.sl 1) (.row (.stk n) 0 N N) (.s (.int kk ((k:Nat):Int)))=some (.ptr (.stk n) (k)):=fun kk=>ixi (by omega)
    have xb:∀kk:IntKind,indexAddrL (.sl 1) (.row (.stk n) 0 N N) (.s (.int kk ((k - 1:Nat):Int)))=some (.ptr (.stk n) (k - 1)):=fun kk=>ixi (by omega)
    have ra:=ird (H:=H) hSe (i:=k) (by omega)
    have rb:=ird (H:=H) hSe (i:=k - 1) (by omega)
    obtain ⟨wa,wb⟩:=sw2 (H:=H) hSe (i:=k) (j:=k - 1) (by omega) (by omega)
    rw [List.set_set] at wa wb
    rw [List.set_set] at wb
    have hgs:(Sort.swp e k (k - 1)).size=N:=by rw [swp_size]; exact hes
    by_cases h2:2≤k - a
    · have hlt5:((2:Int)≤((k - a:Nat):Int))=True:=eq_true (by omega)
      rw [if_pos h2] at hinv
      simp only [Cz0,A_,simprocAttr,ne_eq,(Uz3 _).1,hlt3,hwb,hlt4,hwk,hwka,hwbk,xa,xb,ra,rb,wa,wb,hlt5]
      refine y9p6_loop (a:=a) (b:=b) (i:=k) (st:=st) hC P h0 hn rfl hdl (k - 1) _ _ (by omega) hgs (by simp [keep,zm]) ?_
      intro x9 x64 x65 x66 x67 x68 x69 x70 x71 x72 x73 x74 x75 x76 x77 x78
      have hgs2:(Sort.shiftDown ltI (k - 1) (Sort.swp e k (k - 1))).size=N:=by rw [shiftDown_size]; exact hgs
      generalize Sort.shiftDown ltI (k - 1) (Sort.swp e k (k - 1))=g at hinv hgs2 ⊢
      by_cases h3:2≤b - k
      · have hlt6:((2:Int)≤((b - k:Nat):Int))=True:=eq_true (by omega)
        rw [if_pos h3] at hinv
        simp only [Cz0,A_,simprocAttr,ne_eq,(Uz3 _).1,hwbk,hlt6,hwk2]
        refine y9p12_loop (a:=a) (b:=b) (i:=k) (st:=st) hC P h0 hn rfl hbd hdl (k + 1) _ _ (by omega) (by omega) hgs2 (by simp [keep,zm]) ?_
        intro x10 x101 x102 x103 x104 x105 x106 x107 x108 x109 x110 x111 x112 x113 x114 x115 x116
        simp only [Cz0,A_,simprocAttr,ne_eq,(Uz3 _).1,hws]
        exact ih (s,k,Sort.shiftUp ltI b (k + 1) g) _ _ _ (by dsimp only; omega) ⟨by dsimp only; omega,by dsimp only; omega,by dsimp only; omega,by dsimp only; omega,by rw [shiftUp_size b _ _ _ (Nat.le_refl _)]; exact hgs2,hinv⟩ (by simp [keep,zm]) (by rw [List.take_of_length_le]; simp) rfl
      · have hlt6:((2:Int)≤((b - k:Nat):Int))=False:=eq_false (by omega)
        rw [if_neg h3] at hinv
        simp only [Cz0,A_,simprocAttr,ne_eq,(Uz3 _).1,hwbk,hlt6,hws]
        exact ih (s,k,g) _ _ _ (by dsimp only; omega) ⟨by dsimp only; omega,by dsimp only; omega,by dsimp only; omega,by dsimp only; omega,hgs2,hinv⟩ (by simp [keep,zm]) (by rw [List.take_of_length_le]; simp) rfl
    · have hlt5:((2:Int)≤((k - a:Nat):Int))=False:=eq_false (by omega)
      rw [if_neg h2] at hinv
      simp only [Cz0,A_,simprocAttr,ne_eq,(Uz3 _).1,hlt3,hwb,hlt4,hwk,hwka,hwbk,xa,xb,ra,rb,wa,wb,hlt5]
      have hgs2:=hgs
      generalize Sort.swp e k (k - 1)=g at hinv hgs2 ⊢
      by_cases h3:2≤b - k
      · have hlt6:((2:Int)≤((b - k:Nat):Int))=True:=eq_true (by omega)
        rw [if_pos h3] at hinv
        simp only [Cz0,A_,simprocAttr,ne_eq,(Uz3 _).1,hwbk,hlt6,hwk2]
        refine y9p12_loop (a:=a) (b:=b) (i:=k) (st:=st) hC P h0 hn rfl hbd hdl (k + 1) _ _ (by omega) (by omega) hgs2 (by simp [keep,zm]) ?_
        intro x10 x101 x102 x103 x104 x105 x106 x107 x108 x109 x110 x111 x112 x113 x114 x115 x116
        simp only [Cz0,A_,simprocAttr,ne_eq,(Uz3 _).1,hws]
        exact ih (s,k,Sort.shiftUp ltI b (k + 1) g) _ _ _ (by dsimp only; omega) ⟨by dsimp only; omega,by dsimp only; omega,by dsimp only; omega,by dsimp only; omega,by rw [shiftUp_size b _ _ _ (Nat.le_refl _)]; exact hgs2,hinv⟩ (by simp [keep,zm]) (by rw [List.take_of_length_le]; simp) rfl
      · have hlt6:((2:Int)≤((b - k:Nat):Int))=False:=eq_false (by omega)
        rw [if_neg h3] at hinv
        simp only [Cz0,A_,simprocAttr,ne_eq,(Uz3 _).1,hwbk,hlt6,hws]
        exact ih (s,k,g) _ _ _ (by dsimp only; omega) ⟨by dsimp only; omega,by dsimp only; omega,by dsimp only; omega,by dsimp only; omega,hgs2,hinv⟩ (by simp [keep,zm]) (by rw [List.take_of_length_le]; simp) rfl
end Go.AM
namespace Go.AM
open Go
open AV renaming undef → uu
set_option maxRecDepth 20000
theorem SrtS.at {C:CallW} {f:FuncId} {X:Array Int→Nat→Nat→Array Int} (h:SrtS C f X) {N:Nat} (n:Nat) (d:Array Int) (a b:Nat) (S:List (List AV)) (H:List HObj) (K:AV→St→Prop) (hS:S[n]? = some (flat iA d)) (hd:d.size=N) (h1:a≤b) (h2:b≤N) (h3:N≤2305843009213693952) (hK:K (.tup []) ⟨S.set n (flat iA (X d a b)),H⟩):C (.fn f) [.row (.stk n) 0 N N,.s (.int .i64 a),.s (.int .i64 b)] ⟨S,H⟩ K:=by
  subst hd; exact h n d a b S H K hS h1 h2 (by omega) hK
theorem SrtT.at {C:CallW} {f:FuncId} {X:Array Int→Nat→Nat→Array Int} (h:SrtT C f X) {N:Nat} (n:Nat) (d:Array Int) (a b:Nat) (S:List (List AV)) (H:List HObj) (K:AV→St→Prop) (hS:S[n]? = some (flat iA d)) (hd:d.size=N) (h1:a < b) (h2:b≤N) (h3:N≤2305843009213693952) (hK:K (.tup []) ⟨S.set n (flat iA (X d a b)),H⟩):C (.fn f) [.row (.stk n) 0 N N,.s (.int .i64 a),.s (.int .i64 b)] ⟨S,H⟩ K:=by
  subst hd; exact h n d a b S H K hS h1 h2 h3 hK
theorem ChpS.at {C:CallW} {f:FuncId} (h:ChpS C f) {N:Nat} (n:Nat) (d:Array Int) (a b:Nat) (S:List (List AV)) (H:List HObj) (K:AV→St→Prop) (hS:S[n]? = some (flat iA d)) (hd:d.size=N) (h1:a < b) (h2:b≤N) (h3:N≤2305843009213693952) (hK:K (.tup [.s (.int .i64 (Sort.choosePivot ltI d a b).1),.s (.int .i64 (hI (Sort.choosePivot ltI d a b).2))]) ⟨S,H⟩):C (.fn f) [.row (.stk n) 0 N N,.s (.int .i64 a),.s (.int .i64 b)] ⟨S,H⟩ K:=by
  subst hd; exact h n d a b S H K hS h1 h2 h3 hK
theorem PinS.at {C:CallW} {f:FuncId} (h:PinS C f) {N:Nat} (n:Nat) (d:Array Int) (a b:Nat) (S:List (List AV)) (H:List HObj) (K:AV→St→Prop) (hS:S[n]? = some (flat iA d)) (hd:d.size=N) (h1:a < b) (h2:b≤N) (h3:N≤2305843009213693952) (hK:K (.bool (Sort.partialInsertionSort ltI d a b).2) ⟨S.set n (flat iA (Sort.partialInsertionSort ltI d a b).1),H⟩):C (.fn f) [.row (.stk n) 0 N N,.s (.int .i64 a),.s (.int .i64 b)] ⟨S,H⟩ K:=by
  subst hd; exact h n d a b S H K hS h1 h2 h3 hK
theorem PeqS.at {C:CallW} {f:FuncId} (h:PeqS C f) {N:Nat} (n:Nat) (d:Array Int) (a b p:Nat) (S:List (List AV)) (H:List HObj) (K:AV→St→Prop) (hS:S[n]? = some (flat iA d)) (hd:d.size=N) (h0:a≤p) (h1:p < b) (h2:b≤N) (h3:N≤2305843009213693952) (hK:K (.s (.int .i64 (Sort.partitionEqual ltI d a b p).1)) ⟨S.set n (flat iA (Sort.partitionEqual ltI d a b p).2),H⟩):C (.fn f) [.row (.stk n) 0 N N,.s (.int .i64 a),.s (.int .i64 b),.s (.int .i64 p)] ⟨S,H⟩ K:=by
  subst hd; exact h n d a b p S H K hS h0 h1 h2 h3 hK
theorem PartS.at {C:CallW} {f:FuncId} (h:PartS C f) {N:Nat} (n:Nat) (d:Array Int) (a b p:Nat) (S:List (List AV)) (H:List HObj) (K:AV→St→Prop) (hS:S[n]? = some (flat iA d)) (hd:d.size=N) (h0:a≤p) (h1:p < b) (h2:b≤N) (h3:N≤2305843009213693952) (hK:K (.tup [.s (.int .i64 (Sort.partition ltI d a b p).1),.s (.bool (Sort.partition ltI d a b p).2.1)]) ⟨S.set n (flat iA (Sort.partition ltI d a b p).2.2),H⟩):C (.fn f) [.row (.stk n) 0 N N,.s (.int .i64 a),.s (.int .i64 b),.s (.int .i64 p)] ⟨S,H⟩ K:=by
  subst hd; exact h n d a b p S H K hS h0 h1 h2 h3 hK
def PdqS (C:CallW) (f:FuncId) (m:Nat):Prop:=∀(n:Nat) (d:Array Int) (a b lim:Nat) (S:List (List AV)) (H:List HObj) (K:AV→St→Prop),S[n]? = some (flat iA d)→a≤b→b≤d.size→d.size≤2305843009213693952→b - a < m→lim≤2305843009213693952→Sort.Below ltI a b d→(∀R,Sort.PermIn a b d R→Sort.SortedIn ltI a b R→K (.tup []) ⟨S.set n (flat iA R),H⟩)→C (.fn f) [.row (.stk n) 0 d.size d.size,.s (.int .i64 a),.s (.int .i64 b),.s (.int .i64 lim)] ⟨S,H⟩ K
theorem PdqS.at {C:CallW} {f:FuncId} {m:Nat} (h:PdqS C f m) {N:Nat} (n:Nat) (d:Array Int) (a b lim:Nat) (S:List (List AV)) (H:List HObj) (K:AV→St→Prop) (hS:S[n]? = some (flat iA d)) (hd:d.size=N) (h1:a≤b) (h2:b≤N) (h3:N≤2305843009213693952) (h4:b - a < m) (h5:lim≤2305843009213693952) (hB:Sort.Below ltI a b d) (hK:∀R,Sort.PermIn a b d R→Sort.SortedIn ltI a b R→K (.tup []) ⟨S.set n (flat iA R),H⟩):C (.fn f) [.row (.stk n) 0 N N,.s (.int .i64 a),.s (.int .i64 b),.s (.int .i64 lim)] ⟨S,H⟩ K:=by
  subst hd; exact h n d a b lim S H K hS h1 h2 h3 h4 h5 hB hK
def Vz0 (c : Nat → FuncId) := PLift.up (zc (zc (zc (@unfC _ _ (y9s1.eq_1 c)) (zc (@unfC _ _ (y9s2.eq_1 c)) (@unfC _ _ (y9s3.eq_1 c)))) (zc (zc (@unfC _ _ (y9s4.eq_1 c)) (@unfC _ _ (y9s5.eq_1 c))) (zc (@unfC _ _ (y9s6.eq_1 c)) (@unfC _ _ (y9s7.eq_1 c))))) (zc (zc (zc (@unfC _ _ (y9s20.eq_1 c)) (@unfC _ _ (y9s21.eq_1 c))) (zc (@unfC _ _ (y9s22.eq_1 c)) (@unfC _ _ (y9s23.eq_1 c)))) (zc (zc (@unfC _ _ (y9s24.eq_1 c)) (@unfC _ _ (y9s25.eq_1 c))) (zc (@unfC _ _ (y9s26.eq_1 c)) (@unfC _ _ (y9s27.eq_1 c))))))
def Vz1 (c : Nat → FuncId) := PLift.up (zc (zc (zc (@unfC _ _ (y9s8.eq_1 c)) (zc (@unfC _ _ (y9s9.eq_1 c)) (@unfC _ _ (y9s10.eq_1 c)))) (zc (@unfC _ _ (y9s11.eq_1 c)) (zc (@unfC _ _ (y9s12.eq_1 c)) (@unfC _ _ (y9s13.eq_1 c))))) (zc (zc (@unfC _ _ (y9s14.eq_1 c)) (zc (@unfC _ _ (y9s15.eq_1 c)) (@unfC _ _ (y9s16.eq_1 c)))) (zc (@unfC _ _ (y9s17.eq_1 c)) (zc (@unfC _ _ (y9s18.eq_1 c)) (@unfC _ _ (y9s19.eq_1 c))))))
set_option maxHeartbeats 16000000 in
theorem y9s19_run {C : CallW} (hC : LeC C C) (P : Program) {c : Nat → FuncId} {m : Nat} (h6 : LessS C (c 6)) (h7 : PeqS C (c 7)) (h8 : PartS C (c 8)) (h9 : PdqS C (c 9) m) {n N a b L lim piv n0 : Nat} {wb wp : Bool} {e : Array Int} {S : List (List AV)} {H : List HObj} {is : List Item} {K : KC} (hS : S[n]? = some (flat iA e)) (hn0 : n0 = S.length) (hes : e.size = N) (hap : a ≤ piv) (hpb : piv < b) (hb : b ≤ N) (hN : N ≤ 2305843009213693952) (hL : L ≤ N) (hlim : lim ≤ 2305843009213693952) (hm : b - a ≤ m) (hB : Sort.Below ltI a b e)
    (hloop:∀(a' b' lim':Nat) (wb' wp':Bool) (e':Array Int) (fr':Fr) (S':List (List AV)),keep (zm false [0,4,4,2,124]) fr'=[.row (.stk n) 0 N N,.s (.int .i64 (a':Nat)),.s (.int .i64 (b':Nat)),.s (.int .i64 (lim':Nat)),uu,uu,uu,uu,.s (.bool wb'),.s (.bool wp'),uu,uu,uu,uu,uu,uu,uu,uu,uu,uu,uu,uu,uu,uu,uu,uu,uu,uu,uu,uu,uu,uu,uu,uu,uu,uu,uu,uu,uu,uu,uu,uu,uu,uu,uu,uu,uu,uu,uu,uu,uu,uu,uu,uu,uu,uu,uu,uu,uu,uu,uu,uu,uu,uu,uu,uu,uu,uu,uu,uu,uu,uu,uu,uu,uu,uu,uu,uu,uu,uu,uu,uu,uu,uu,uu,uu,uu,uu,uu,uu,uu,uu,uu,uu,uu,uu,uu,uu,uu,uu,uu,uu,uu,uu,uu,uu,uu,uu,uu,uu,uu,uu,uu,uu,uu,uu,uu,uu,uu,uu,uu,uu,uu,uu,uu,uu,uu,uu,uu,uu,uu,uu,uu,uu]→S'.take n0=S.set n (flat iA e')→e'.size=N→b' - a' < b - a→a≤a'→b'≤b→a'≤b'→lim'≤2305843009213693952→Sort.Below ltI a' b' e'→(∀R,Sort.PermIn a' b' e' R→Sort.SortedIn ltI a' b' R→Sort.PermIn a b e R∧Sort.SortedIn ltI a b R)→runLp C P false (zm false [0,4,4,2,124]) (y9s26 c) n0 is fr' ⟨S',H⟩ K) :
    ∀(x4 x5 x6 x7 x12 x13 x14 x15 x16 x17 x18 x19 x20 x21 x22 x23 x24 x25 x26 x27 x28 x29 x30 x31 x32 x33 x34 x35 x36 x37 x38 x39 x40 x41 x42 x43 x44 x45 x46 x47 x48 x49 x50 x51 x52 x53 x54 x55 x56 x57 x58 x59 x60 x61 x62 x63 x64 x65 x66 x67 x68 x69 x70 x71 x72 x73 x74 x75 x76 x77 x78 x79 x80 x81 x82 x83 x84 x85 x86 x87 x88 x89 x90 x91 x92 x93 x94 x95 x96 x97 x98 x99 x100 x101 x102 x103 x104 x105 x106 x107 x108 x109 x110 x111 x112 x113 x114 x115 x116 x117 x118 x119 x120 x121 x122 x123 x124 x125 x126 x127 x128 x129 x130 x131 x132 x133:AV),runC C P false (y9s19 c) (.blk 1 :: .lp (zm false [0,4,4,2,124]) (y9s26 c) n0 :: is) [.row (.stk n) 0 N N,.s (.int .i64 (a:Nat)),.s (.int .i64 (b:Nat)),.s (.int .i64 (lim:Nat)),x4,x5,x6,x7,.s (.bool wb),.s (.bool wp),.s (.int .i64 (L:Nat)),.s (.int .i64 (piv:Nat)),x12,x13,x14,x15,x16,x17,x18,x19,x20,x21,x22,x23,x24,x25,x26,x27,x28,x29,x30,x31,x32,x33,x34,x35,x36,x37,x38,x39,x40,x41,x42,x43,x44,x45,x46,x47,x48,x49,x50,x51,x52,x53,x54,x55,x56,x57,x58,x59,x60,x61,x62,x63,x64,x65,x66,x67,x68,x69,x70,x71,x72,x73,x74,x75,x76,x77,x78,x79,x80,x81,x82,x83,x84,x85,x86,x87,x88,x89,x90,x91,x92,x93,x94,x95,x96,x97,x98,x99,x100,x101,x102,x103,x104,x105,x106,x107,x108,x109,x110,x111,x112,x113,x114,x115,x116,x117,x118,x119,x120,x121,x122,x123,x124,x125,x126,x127,x128,x129,x130,x131,x132,x133] ⟨S,H⟩ K:=by
  intro x4 x5 x6 x7 x12 x13 x14 x15 x16 x17 x18 x19 x20 x21 x22 x23 x24 x25 x26 x27 x28 x29 x30 x31 x32 x33 x34 x35 x36 x37 x38 x39 x40 x41 x42 x43 x44 x45 x46 x47 x48 x49 x50 x51 x52 x53 x54 x55 x56 x57 x58 x59 x60 x61 x62 x63 x64 x65 x66 x67 x68 x69 x70 x71 x72 x73 x74 x75 x76 x77 x78 x79 x80 x81 x82 x83 x84 x85 x86 x87 x88 x89 x90 x91 x92 x93 x94 x95 x96 x97 x98 x99 x100 x101 x102 x103 x104 x105 x106 x107 x108 x109 x110 x111 x112 x113 x114 x115 x116 x117 x118 x119 x120 x121 x122 x123 x124 x125 x126 x127 x128 x129 x130 x131 x132 x133
  have hn:=slt hS
  by_cases ha0:0 < a
  · have hlt:((0:Int) < (a:Int))=True:=eq_true (by omega)
    have hwa:IntKind.i64.wrap ((a:Int) - 1)=((a - 1:Nat):Int):=by rw [wrap_i64 (by omega) (by omega)]; omega
    have xa:∀kk:IntKind,indexAddrL (.sl 1) (.row (.stk n) 0 N N) (.s (.int kk ((a - 1:Nat):Int)))=some (.ptr (.stk n) (a - 1)):=fun kk=>ixi (by omega)
    have xb:∀kk:IntKind,indexAddrL (.sl 1) (.row (.stk n) 0 N N) (.s (.int kk (piv:Int)))=some (.ptr (.stk n) piv):=fun kk=>ixi (by omega)
    have ra:=ird (H:=H) hS (i:=a - 1) (by omega)
    have rb:=ird (H:=H) hS (i:=piv) (by omega)
    simp only [(Vz1 c).1,A_,simprocAttr,ne_eq,hlt,hwa,xa,xb,ra,rb]
    refine h6 _ _ _ _ _ ?_
    cases hlk:ltI e[a - 1]! e[piv]! with
    | false =>
      simp only [(Vz1 c).1,A_,simprocAttr,ne_eq]
      refine h7.at n e a b piv _ _ _ hS hes hap hpb hb hN ?_
      obtain ⟨⟨mid,d4⟩,hx⟩:∃r,Sort.partitionEqual ltI e a b piv=r:=⟨_,rfl⟩
      obtain ⟨g1,g2,hs4,hB4,hfin⟩:=Sort.round_eq Sort.swo_ltInt (Sort.partitionEqual_holds _) ha0 hap hpb (by omega) hB hlk hx
      have hx':Sort.partitionEqual ltI e a b piv=(mid,d4):=hx
      rw [hx']
      simp only [(Vz1 c).1,A_,simprocAttr,ne_eq]
      exact hloop mid b lim wb wp d4 _ _ (by simp [keep,zm]) (by rw [List.take_of_length_le]; simp [hn0]) (hs4.trans hes) (by omega) (by omega) (by omega) (by omega) hlim hB4 hfin
    | true =>
      simp only [(Vz1 c).1,A_,simprocAttr,ne_eq]
      refine h8.at n e a b piv _ _ _ hS hes hap hpb hb hN ?_
      obtain ⟨⟨mid,ap,d4⟩,hx⟩:∃r,Sort.partition ltI e a b piv=r:=⟨_,rfl⟩
      obtain ⟨g1,g2,hs4,hBa,hBr,hleft,hright⟩:=Sort.round_part Sort.swo_ltInt (Sort.partition_holds _) hap hpb (by omega) hB hx
      have hx':Sort.partition ltI e a b piv=(mid,ap,d4):=hx
      rw [hx']
      have hsz:d4.size=N:=hs4.trans hes
      have hml:IntKind.i64.wrap ((mid:Int) - (a:Int))=((mid - a:Nat):Int):=by rw [wrap_i64 (by omega) (by omega)]; omega
      have hmr:IntKind.i64.wrap ((b:Int) - (mid:Int))=((b - mid:Nat):Int):=by rw [wrap_i64 (by omega) (by omega)]; omega
      have hq:IntKind.i64.wrap ((L:Int).tdiv 8)=((L / 8:Nat):Int):=by rw [show ((L:Int).tdiv 8)=((L / 8:Nat):Int) from rfl,wrap_i64 (by omega) (by omega)]
      have hm1:IntKind.i64.wrap ((mid:Int) + 1)=((mid + 1:Nat):Int):=by rw [wrap_i64 (by omega) (by omega)]; omega
      by_cases hlr:mid - a < b - mid
      · have hlt2:(((mid - a:Nat):Int) < ((b - mid:Nat):Int))=True:=eq_true (by omega)
        simp only [(Vz1 c).1,A_,simprocAttr,ne_eq,hml,hmr,hq,hm1,hlt2]
        refine h9.at n d4 a mid lim _ _ _ (sset hS) hsz g1 (by omega) hN (by omega) hlim hBa fun R hR hsR => ?_
        rw [List.set_set]
        obtain ⟨hBL,hfin⟩:=hleft R hR hsR
        simp only [(Vz1 c).1,A_,simprocAttr,ne_eq,hml,hmr,hq,hm1,hlt2]
        exact hloop (mid + 1) b lim (decide (((L / 8:Nat):Int)≤((mid - a:Nat):Int))) ap R _ _ (by simp [keep,zm]) (by rw [List.take_of_length_le]; simp [hn0]) (hR.1.trans hsz) (by omega) (by omega) (by omega) (by omega) hlim hBL hfin
      · have hlt2:(((mid - a:Nat):Int) < ((b - mid:Nat):Int))=False:=eq_false (by omega)
        simp only [(Vz1 c).1,A_,simprocAttr,ne_eq,hml,hmr,hq,hm1,hlt2]
        refine h9.at n d4 (mid + 1) b lim _ _ _ (sset hS) hsz (by omega) (by omega) hN (by omega) hlim hBr fun R hR hsR => ?_
        rw [List.set_set]
        obtain ⟨hBL,hfin⟩:=hright R hR hsR
        simp only [(Vz1 c).1,A_,simprocAttr,ne_eq,hml,hmr,hq,hm1,hlt2]
        exact hloop a mid lim (decide (((L / 8:Nat):Int)≤((b - mid:Nat):Int))) ap R _ _ (by simp [keep,zm]) (by rw [List.take_of_length_le]; simp [hn0]) (hR.1.trans hsz) (by omega) (by omega) (by omega) (by omega) hlim hBL hfin
  · have hlt:((0:Int) < (a:Int))=False:=eq_false (by omega)
    simp only [(Vz1 c).1,A_,simprocAttr,ne_eq,hlt]
    refine h8.at n e a b piv _ _ _ hS hes hap hpb hb hN ?_
    obtain ⟨⟨mid,ap,d4⟩,hx⟩:∃r,Sort.partition ltI e a b piv=r:=⟨_,rfl⟩
    obtain ⟨g1,g2,hs4,hBa,hBr,hleft,hright⟩:=Sort.round_part Sort.swo_ltInt (Sort.partition_holds _) hap hpb (by omega) hB hx
    have hx':Sort.partition ltI e a b piv=(mid,ap,d4):=hx
    rw [hx']
    have hsz:d4.size=N:=hs4.trans hes
    have hml:IntKind.i64.wrap ((mid:Int) - (a:Int))=((mid - a:Nat):Int):=by rw [wrap_i64 (by omega) (by omega)]; omega
    have hmr:IntKind.i64.wrap ((b:Int) - (mid:Int))=((b - mid:Nat):Int):=by rw [wrap_i64 (by omega) (by omega)]; omega
    have hq:IntKind.i64.wrap ((L:Int).tdiv 8)=((L / 8:Nat):Int):=by rw [show ((L:Int).tdiv 8)=((L / 8:Nat):Int) from rfl,wrap_i64 (by omega) (by omega)]
    have hm1:IntKind.i64.wrap ((mid:Int) + 1)=((mid + 1:Nat):Int):=by rw [wrap_i64 (by omega) (by omega)]; omega
    by_cases hlr:mid - a < b - mid
    · have hlt2:(((mid - a:Nat):Int) < ((b - mid:Nat):Int))=True:=eq_true (by omega)
      simp only [(Vz1 c).1,A_,simprocAttr,ne_eq,hml,hmr,hq,hm1,hlt2]
      refine h9.at n d4 a mid lim _ _ _ (sset hS) hsz g1 (by omega) hN (by omega) hlim hBa fun R hR hsR => ?_
      rw [List.set_set]
      obtain ⟨hBL,hfin⟩:=hleft R hR hsR
      simp only [(Vz1 c).1,A_,simprocAttr,ne_eq,hml,hmr,hq,hm1,hlt2]
      exact hloop (mid + 1) b lim (decide (((L / 8:Nat):Int)≤((mid - a:Nat):Int))) ap R _ _ (by simp [keep,zm]) (by rw [List.take_of_length_le]; simp [hn0]) (hR.1.trans hsz) (by omega) (by omega) (by omega) (by omega) hlim hBL hfin
    · have hlt2:(((mid - a:Nat):Int) < ((b - mid:Nat):Int))=False:=eq_false (by omega)
      simp only [(Vz1 c).1,A_,simprocAttr,ne_eq,hml,hmr,hq,hm1,hlt2]
      refine h9.at n d4 (mid + 1) b lim _ _ _ (sset hS) hsz (by omega) (by omega) hN (by omega) hlim hBr fun R hR hsR => ?_
      rw [List.set_set]
      obtain ⟨hBL,hfin⟩:=hright R hR hsR
      simp only [(Vz1 c).1,A_,simprocAttr,ne_eq,hml,hmr,hq,hm1,hlt2]
      exact hloop a mid lim (decide (((L / 8:Nat):Int)≤((b - mid:Nat):Int))) ap R _ _ (by simp [keep,zm]) (by rw [List.take_of_length_le]; simp [hn0]) (hR.1.trans hsz) (by omega) (by omega) (by omega) (by omega) hlim hBL hfin
set_option maxHeartbeats 32000000 in
theorem pdqsort_spec {C:CallW} (hC:LeC C C) (P:Program) {c:Nat→FuncId} {m:Nat} (h0:SrtS C (c 0) (Sort.insertionSort ltI)) (h1:SrtT C (c 1) (Sort.heapSort ltI)) (h2:SrtT C (c 2) Sort.breakPatterns) (h3:ChpS C (c 3)) (h4:SrtT C (c 4) Sort.reverseRange) (h5:PinS C (c 5)) (h6:LessS C (c 6)) (h7:PeqS C (c 7)) (h8:PartS C (c 8)) (h9:PdqS C (c 9) m):∀(n:Nat) (d:Array Int) (a b lim:Nat) (S:List (List AV)) (H:List HObj) (K:AV→St→Prop),S[n]? = some (flat iA d)→a≤b→b≤d.size→d.size≤2305843009213693952→b - a < m + 1→lim≤2305843009213693952→Sort.Below ltI a b d→(∀R,Sort.PermIn a b d R→Sort.SortedIn ltI a b R→K (.tup []) ⟨S.set n (flat iA R),H⟩)→runL C P (Cz10 c) [.row (.stk n) 0 d.size d.size,.s (.int .i64 a),.s (.int .i64 b),.s (.int .i64 lim)] ⟨S,H⟩ K:=by
  intro n d a0 b0 lim0 S H K hS hab0 hbd0 hdl hm0 hlim0 hB0 hK
  have hn:=slt hS
  obtain ⟨N,hN0⟩:∃N,d.size=N:=⟨_,rfl⟩
  rw [hN0] at hbd0 hdl ⊢
  have hN:N≤2305843009213693952:=hdl
  simp only [Cz10,(Vz0 c).1,A_,simprocAttr,ne_eq]
  refine loop_rule hC (α:=Nat×Nat×Nat×Bool×Bool×Array Int) (fun x=>x.2.1 - x.1) (fun x=>[.row (.stk n) 0 N N,.s (.int .i64 (x.1:Nat)),.s (.int .i64 (x.2.1:Nat)),.s (.int .i64 (x.2.2.1:Nat)),uu,uu,uu,uu,.s (.bool x.2.2.2.1),.s (.bool x.2.2.2.2.1),uu,uu,uu,uu,uu,uu,uu,uu,uu,uu,uu,uu,uu,uu,uu,uu,uu,uu,uu,uu,uu,uu,uu,uu,uu,uu,uu,uu,uu,uu,uu,uu,uu,uu,uu,uu,uu,uu,uu,uu,uu,uu,uu,uu,uu,uu,uu,uu,uu,uu,uu,uu,uu,uu,uu,uu,uu,uu,uu,uu,uu,uu,uu,uu,uu,uu,uu,uu,uu,uu,uu,uu,uu,uu,uu,uu,uu,uu,uu,uu,uu,uu,uu,uu,uu,uu,uu,uu,uu,uu,uu,uu,uu,uu,uu,uu,uu,uu,uu,uu,uu,uu,uu,uu,uu,uu,uu,uu,uu,uu,uu,uu,uu,uu,uu,uu,uu,uu,uu,uu,uu,uu,uu,uu]) (fun x=>S.set n (flat iA x.2.2.2.2.2)) (fun _=>H) (fun x=>x.1≤x.2.1∧x.2.1≤N∧x.2.2.2.2.2.size=N∧x.2.2.1≤2305843009213693952∧x.2.1 - x.1≤b0 - a0∧Sort.Below ltI x.1 x.2.1 x.2.2.2.2.2∧∀R,Sort.PermIn x.1 x.2.1 x.2.2.2.2.2 R→Sort.SortedIn ltI x.1 x.2.1 R→Sort.PermIn a0 b0 d R∧Sort.SortedIn ltI a0 b0 R) (a0,b0,lim0,true,true,d) ⟨hab0,hbd0,hN0,hlim0,Nat.le_refl _,hB0,fun R h1 h2=>⟨h1,h2⟩⟩ (by simp [keep,zm]) (by rw [sself hS,List.take_of_length_le (Nat.le_refl _)]) rfl (fun x _=>by simp [AV.under,AV.under.go,hn]) ?_
  rintro ⟨a,b,lim,wb,wp,e⟩ ⟨hab,hbN,hes,hlim,hba,hB,hfin⟩ ih
  dsimp only at hab hbN hes hlim hba hB hfin ih ⊢
  have hbe:b≤e.size:=by omega
  have hw0:IntKind.i64.wrap ((b:Int) - (a:Int))=((b - a:Nat):Int):=by rw [wrap_i64 (by omega) (by omega)]; omega
  have hSe:(S.set n (flat iA e))[n]? = some (flat iA e):=sset hS
  by_cases h12:b - a≤12
  · have hlt:(((b - a:Nat):Int)≤12)=True:=eq_true (by omega)
    simp only [(Vz0 c).1,A_,simprocAttr,ne_eq,hw0,hlt]
    refine h0.at n e a b _ _ _ hSe hes hab hbN hN ?_
    rw [List.set_set]
    obtain ⟨q1,q2⟩:=Sort.insertionSort_holds Sort.swo_ltInt e a b hab hbe
    obtain ⟨q3,q4⟩:=hfin _ q1 q2
    simp only [(Vz0 c).1,A_,simprocAttr,ne_eq]
    exact hK _ q3 q4
  have hlt:(((b - a:Nat):Int)≤12)=False:=eq_false (by omega)
  by_cases hl0:lim=0
  · subst hl0
    have hlt0:(((0:Nat):Int)=0)=True:=eq_true rfl
    simp only [(Vz0 c).1,A_,simprocAttr,ne_eq,hw0,hlt,hlt0]
    refine h1.at n e a b _ _ _ hSe hes (by omega) hbN hN ?_
    rw [List.set_set]
    obtain ⟨q1,q2⟩:=Sort.heapSort_holds Sort.swo_ltInt e a b hab hbe
    obtain ⟨q3,q4⟩:=hfin _ q1 q2
    simp only [(Vz0 c).1,A_,simprocAttr,ne_eq]
    exact hK _ q3 q4
  have hlt0:((lim:Int)=0)=False:=eq_false (by omega)
  have loop2:∀(e2:Array Int),Sort.PermIn a b e e2→∀(a' b' lim':Nat) (wb' wp':Bool) (e':Array Int) (fr':Fr) (S':List (List AV)),keep (zm false [0,4,4,2,124]) fr'=[.row (.stk n) 0 N N,.s (.int .i64 (a':Nat)),.s (.int .i64 (b':Nat)),.s (.int .i64 (lim':Nat)),uu,uu,uu,uu,.s (.bool wb'),.s (.bool wp'),uu,uu,uu,uu,uu,uu,uu,uu,uu,uu,uu,uu,uu,uu,uu,uu,uu,uu,uu,uu,uu,uu,uu,uu,uu,uu,uu,uu,uu,uu,uu,uu,uu,uu,uu,uu,uu,uu,uu,uu,uu,uu,uu,uu,uu,uu,uu,uu,uu,uu,uu,uu,uu,uu,uu,uu,uu,uu,uu,uu,uu,uu,uu,uu,uu,uu,uu,uu,uu,uu,uu,uu,uu,uu,uu,uu,uu,uu,uu,uu,uu,uu,uu,uu,uu,uu,uu,uu,uu,uu,uu,uu,uu,uu,uu,uu,uu,uu,uu,uu,uu,uu,uu,uu,uu,uu,uu,uu,uu,uu,uu,uu,uu,uu,uu,uu,uu,uu,uu,uu,uu,uu,uu,uu]→S'.take S.length=(S.set n (flat iA e2)).set n (flat iA e')→e'.size=N→b' - a' < b - a→a≤a'→b'≤b→a'≤b'→lim'≤2305843009213693952→Sort.Below ltI a' b' e'→(∀R,Sort.PermIn a' b' e' R→Sort.SortedIn ltI a' b' R→Sort.PermIn a b e2 R∧Sort.SortedIn ltI a b R)→runLp C P false (zm false [0,4,4,2,124]) (y9s26 c) S.length [Item.blk 0] fr' ⟨S',H⟩ (fin S.length [] K):=by
    intro e2 hp a' b' lim' wb' wp' e' fr' S' k1 k2 k3 k4 k5 k6 k7 k8 k9 k10
    rw [List.set_set] at k2
    exact ih (a',b',lim',wb',wp',e') fr' S' H k4 ⟨k7,by dsimp only; omega,k3,k8,by dsimp only; omega,k9,fun R r1 r2=>by
      obtain ⟨q1,q2⟩:=k10 R r1 r2
      exact hfin R (Sort.permIn_trans _ _ _ _ _ hp q1) q2⟩ k1 k2 rfl
  have Sset2:∀z:Array Int,(S.set n (flat iA z))[n]? = some (flat iA z):=fun z=>sset hS
  have hlen:∀z:Array Int,S.length=(S.set n (flat iA z)).length:=fun z=>by simp
  have hwb1:IntKind.i64.wrap ((b:Int) - 1)=((b - 1:Nat):Int):=by rw [wrap_i64 (by omega) (by omega)]; omega
  have hwl1:IntKind.i64.wrap ((lim:Int) - 1)=((lim - 1:Nat):Int):=by rw [wrap_i64 (by omega) (by omega)]; omega
  have fin2:∀(e2:Array Int),Sort.PermIn a b e e2→e2.size=N∧b≤e2.size∧Sort.Below ltI a b e2:=fun e2 hp=>⟨hp.1.trans hes,by rw [hp.1]; exact hbe,hB.perm hbe hp⟩
  cases wb with
  | false =>
    simp only [(Vz0 c).1,A_,simprocAttr,ne_eq,hw0,hlt,hlt0]
    refine h2.at n e a b _ _ _ hSe hes (by omega) hbN hN ?_
    rw [List.set_set]
    have p1:=Sort.breakPatterns_holds e a b hab hbe
    generalize Sort.breakPatterns e a b=e1 at p1 ⊢
    obtain ⟨s1,b1,B1⟩:=fin2 e1 p1
    simp only [(Vz0 c).1,A_,simprocAttr,ne_eq,hwl1]
    refine h3.at n e1 a b _ _ _ (Sset2 e1) s1 (by omega) hbN hN ?_
    obtain ⟨u1,u2⟩:=Sort.choosePivot_holds ltI e1 a b (by omega)
    generalize Sort.choosePivot ltI e1 a b=cp at u1 u2 ⊢
    obtain ⟨piv,hint⟩:=cp
    dsimp only at u1 u2 ⊢
    cases hint with
    | unknown =>
      simp only [(Vz0 c).1,A_,simprocAttr,ne_eq,hI]
      exact y9s19_run hC P h6 h7 h8 h9 (Sset2 e1) (hlen e1) s1 u1 u2 hbN hN (by omega) (by omega) (by omega) B1 (loop2 e1 p1) _ _ _ _ _ _ _ _ _ _ _ _ _ _ _ _ _ _ _ _ _ _ _ _ _ _ _ _ _ _ _ _ _ _ _ _ _ _ _ _ _ _ _ _ _ _ _ _ _ _ _ _ _ _ _ _ _ _ _ _ _ _ _ _ _ _ _ _ _ _ _ _ _ _ _ _ _ _ _ _ _ _ _ _ _ _ _ _ _ _ _ _ _ _ _ _ _ _ _ _ _ _ _ _ _ _ _ _ _ _ _ _ _ _ _ _ _ _ _ _ _ _ _ _ _ _
    | increasing =>
      simp only [(Vz0 c).1,A_,simprocAttr,ne_eq,hI]
      exact y9s19_run hC P h6 h7 h8 h9 (Sset2 e1) (hlen e1) s1 u1 u2 hbN hN (by omega) (by omega) (by omega) B1 (loop2 e1 p1) _ _ _ _ _ _ _ _ _ _ _ _ _ _ _ _ _ _ _ _ _ _ _ _ _ _ _ _ _ _ _ _ _ _ _ _ _ _ _ _ _ _ _ _ _ _ _ _ _ _ _ _ _ _ _ _ _ _ _ _ _ _ _ _ _ _ _ _ _ _ _ _ _ _ _ _ _ _ _ _ _ _ _ _ _ _ _ _ _ _ _ _ _ _ _ _ _ _ _ _ _ _ _ _ _ _ _ _ _ _ _ _ _ _ _ _ _ _ _ _ _ _ _ _ _ _
    | decreasing =>
      have hwp:IntKind.i64.wrap ((piv:Int) - (a:Int))=((piv - a:Nat):Int):=by rw [wrap_i64 (by omega) (by omega)]; omega
      have hwp2:IntKind.i64.wrap (((b - 1:Nat):Int) - ((piv - a:Nat):Int))=((b - 1 - (piv - a):Nat):Int):=by rw [wrap_i64 (by omega) (by omega)]; omega
      simp only [(Vz0 c).1,A_,simprocAttr,ne_eq,hI]
      refine h4.at n e1 a b _ _ _ (Sset2 e1) s1 (by omega) hbN hN ?_
      rw [List.set_set]
      have p2:=Sort.reverseRange_holds e1 a b hab b1
      generalize Sort.reverseRange e1 a b=e2 at p2 ⊢
      have p3:=Sort.permIn_trans _ _ _ _ _ p1 p2
      obtain ⟨s2,b2,B2⟩:=fin2 e2 p3
      simp only [(Vz0 c).1,A_,simprocAttr,ne_eq,hwb1,hwp,hwp2]
      exact y9s19_run hC P h6 h7 h8 h9 (Sset2 e2) (hlen e2) s2 (by omega) (by omega) hbN hN (by omega) (by omega) (by omega) B2 (loop2 e2 p3) _ _ _ _ _ _ _ _ _ _ _ _ _ _ _ _ _ _ _ _ _ _ _ _ _ _ _ _ _ _ _ _ _ _ _ _ _ _ _ _ _ _ _ _ _ _ _ _ _ _ _ _ _ _ _ _ _ _ _ _ _ _ _ _ _ _ _ _ _ _ _ _ _ _ _ _ _ _ _ _ _ _ _ _ _ _ _ _ _ _ _ _ _ _ _ _ _ _ _ _ _ _ _ _ _ _ _ _ _ _ _ _ _ _ _ _ _ _ _ _ _ _ _ _ _ _
  | true =>
    simp only [(Vz0 c).1,A_,simprocAttr,ne_eq,hw0,hlt,hlt0]
    refine h3.at n e a b _ _ _ hSe hes (by omega) hbN hN ?_
    obtain ⟨u1,u2⟩:=Sort.choosePivot_holds ltI e a b (by omega)
    generalize Sort.choosePivot ltI e a b=cp at u1 u2 ⊢
    obtain ⟨piv,hint⟩:=cp
    dsimp only at u1 u2 ⊢
    have p0:=Sort.permIn_refl e a b
    obtain ⟨piv2,e1,p1,v1,v2,hst⟩:∃(piv2:Nat) (e1:Array Int),Sort.PermIn a b e e1∧a≤piv2∧piv2 < b∧True:=⟨piv,e,p0,u1,u2,trivial⟩
    clear hst v1 v2 p1 e1 piv2
    cases hint with
    | unknown =>
      cases wp <;>
      · simp only [(Vz0 c).1,A_,simprocAttr,ne_eq,hI]
        exact y9s19_run hC P h6 h7 h8 h9 hSe (hlen e) hes u1 u2 hbN hN (by omega) hlim (by omega) hB (loop2 e p0) _ _ _ _ _ _ _ _ _ _ _ _ _ _ _ _ _ _ _ _ _ _ _ _ _ _ _ _ _ _ _ _ _ _ _ _ _ _ _ _ _ _ _ _ _ _ _ _ _ _ _ _ _ _ _ _ _ _ _ _ _ _ _ _ _ _ _ _ _ _ _ _ _ _ _ _ _ _ _ _ _ _ _ _ _ _ _ _ _ _ _ _ _ _ _ _ _ _ _ _ _ _ _ _ _ _ _ _ _ _ _ _ _ _ _ _ _ _ _ _ _ _ _ _ _ _
    | increasing =>
      cases wp with
      | false =>
        simp only [(Vz0 c).1,A_,simprocAttr,ne_eq,hI]
        exact y9s19_run hC P h6 h7 h8 h9 hSe (hlen e) hes u1 u2 hbN hN (by omega) hlim (by omega) hB (loop2 e p0) _ _ _ _ _ _ _ _ _ _ _ _ _ _ _ _ _ _ _ _ _ _ _ _ _ _ _ _ _ _ _ _ _ _ _ _ _ _ _ _ _ _ _ _ _ _ _ _ _ _ _ _ _ _ _ _ _ _ _ _ _ _ _ _ _ _ _ _ _ _ _ _ _ _ _ _ _ _ _ _ _ _ _ _ _ _ _ _ _ _ _ _ _ _ _ _ _ _ _ _ _ _ _ _ _ _ _ _ _ _ _ _ _ _ _ _ _ _ _ _ _ _ _ _ _ _
      | true =>
        simp only [(Vz0 c).1,A_,simprocAttr,ne_eq,hI]
        refine h5.at n e a b _ _ _ hSe hes (by omega) hbN hN ?_
        rw [List.set_set]
        obtain ⟨q1,q2⟩:=Sort.partialInsertionSort_holds Sort.swo_ltInt e a b (by omega) hbe hB
        have q1':Sort.PermIn a b e (Sort.partialInsertionSort ltI e a b).1:=q1
        have q2':(Sort.partialInsertionSort ltI e a b).2=true→Sort.SortedIn ltI a b (Sort.partialInsertionSort ltI e a b).1:=q2
        clear q1 q2
        generalize Sort.partialInsertionSort ltI e a b=pr at q1' q2' ⊢
        obtain ⟨e3,ok⟩:=pr
        dsimp only at q1' q2' ⊢
        cases ok with
        | true =>
          obtain ⟨q3,q4⟩:=hfin _ q1' (q2' rfl)
          simp only [(Vz0 c).1,A_,simprocAttr,ne_eq]
          exact hK _ q3 q4
        | false =>
          obtain ⟨s3,b3,B3⟩:=fin2 e3 q1'
          simp only [(Vz0 c).1,A_,simprocAttr,ne_eq]
          exact y9s19_run hC P h6 h7 h8 h9 (Sset2 e3) (hlen e3) s3 u1 u2 hbN hN (by omega) hlim (by omega) B3 (loop2 e3 q1') _ _ _ _ _ _ _ _ _ _ _ _ _ _ _ _ _ _ _ _ _ _ _ _ _ _ _ _ _ _ _ _ _ _ _ _ _ _ _ _ _ _ _ _ _ _ _ _ _ _ _ _ _ _ _ _ _ _ _ _ _ _ _ _ _ _ _ _ _ _ _ _ _ _ _ _ _ _ _ _ _ _ _ _ _ _ _ _ _ _ _ _ _ _ _ _ _ _ _ _ _ _ _ _ _ _ _ _ _ _ _ _ _ _ _ _ _ _ _ _ _ _ _ _ _ _
    | decreasing =>
      have hwp:IntKind.i64.wrap ((piv:Int) - (a:Int))=((piv - a:Nat):Int):=by rw [wrap_i64 (by omega) (by omega)]; omega
      have hwp2:IntKind.i64.wrap (((b - 1:Nat):Int) - ((piv - a:Nat):Int))=((b - 1 - (piv - a):Nat):Int):=by rw [wrap_i64 (by omega) (by omega)]; omega
      simp only [(Vz0 c).1,A_,simprocAttr,ne_eq,hI]
      refine h4.at n e a b _ _ _ hSe hes (by omega) hbN hN ?_
      rw [List.set_set]
      have p2:=Sort.reverseRange_holds e a b hab hbe
      generalize Sort.reverseRange e a b=e2 at p2 ⊢
      obtain ⟨s2,b2,B2⟩:=fin2 e2 p2
      cases wp with
      | false =>
        simp only [(Vz0 c).1,A_,simprocAttr,ne_eq,hwb1,hwp,hwp2]
        exact y9s19_run hC P h6 h7 h8 h9 (Sset2 e2) (hlen e2) s2 (by omega) (by omega) hbN hN (by omega) hlim (by omega) B2 (loop2 e2 p2) _ _ _ _ _ _ _ _ _ _ _ _ _ _ _ _ _ _ _ _ _ _ _ _ _ _ _ _ _ _ _ _ _ _ _ _ _ _ _ _ _ _ _ _ _ _ _ _ _ _ _ _ _ _ _ _ _ _ _ _ _ _ _ _ _ _ _ _ _ _ _ _ _ _ _ _ _ _ _ _ _ _ _ _ _ _ _ _ _ _ _ _ _ _ _ _ _ _ _ _ _ _ _ _ _ _ _ _ _ _ _ _ _ _ _ _ _ _ _ _ _ _ _ _ _ _
      | true =>
        simp only [(Vz0 c).1,A_,simprocAttr,ne_eq,hwb1,hwp,hwp2]
        refine h5.at n e2 a b _ _ _ (Sset2 e2) s2 (by omega) hbN hN ?_
        rw [List.set_set]
        obtain ⟨q1,q2⟩:=Sort.partialInsertionSort_holds Sort.swo_ltInt e2 a b (by omega) b2 B2
        have q1':Sort.PermIn a b e2 (Sort.partialInsertionSort ltI e2 a b).1:=q1
        have q2':(Sort.partialInsertionSort ltI e2 a b).2=true→Sort.SortedIn ltI a b (Sort.partialInsertionSort ltI e2 a b).1:=q2
        clear q1 q2
        generalize Sort.partialInsertionSort ltI e2 a b=pr at q1' q2' ⊢
        obtain ⟨e3,ok⟩:=pr
        dsimp only at q1' q2' ⊢
        have q1':=Sort.permIn_trans _ _ _ _ _ p2 q1'
        cases ok with
        | true =>
          obtain ⟨q3,q4⟩:=hfin _ q1' (q2' rfl)
          simp only [(Vz0 c).1,A_,simprocAttr,ne_eq]
          exact hK _ q3 q4
        | false =>
          obtain ⟨s3,b3,B3⟩:=fin2 e3 q1'
          simp only [(Vz0 c).1,A_,simprocAttr,ne_eq]
          exact y9s19_run hC P h6 h7 h8 h9 (Sset2 e3) (hlen e3) s3 (by omega) (by omega) hbN hN (by omega) hlim (by omega) B3 (loop2 e3 q1') _ _ _ _ _ _ _ _ _ _ _ _ _ _ _ _ _ _ _ _ _ _ _ _ _ _ _ _ _ _ _ _ _ _ _ _ _ _ _ _ _ _ _ _ _ _ _ _ _ _ _ _ _ _ _ _ _ _ _ _ _ _ _ _ _ _ _ _ _ _ _ _ _ _ _ _ _ _ _ _ _ _ _ _ _ _ _ _ _ _ _ _ _ _ _ _ _ _ _ _ _ _ _ _ _ _ _ _ _ _ _ _ _ _ _ _ _ _ _ _ _ _ _ _ _ _
end Go.AM
namespace Go.AM
open Go
open AV renaming undef → uu
set_option maxRecDepth 20000
variable {gF:FuncId} {qF:List AV} {cvF:Int→Int→Int}
def ltC (cv:Int→Int→Int) (x y:Int):Bool:=decide (cv x y < 0)
theorem ltC_t {cv:Int→Int→Int} {x y:Int} (h:ltC cv x y=true):cv x y < 0:=of_decide_eq_true h
theorem ltC_f {cv:Int→Int→Int} {x y:Int} (h:ltC cv x y=false):¬(cv x y < 0):=of_decide_eq_false h
def AskC (C:CallW) (gF:FuncId) (qF:List AV) (cvF:Int→Int→Int) (n m:Nat) (S:List (List AV)) (H:List HObj):Prop:=(∀k,S.length≤k→AV.under.go k qF=true)∧∀(x y:Int) (S':List (List AV)) (K:AV→St→Prop),(∀i,i < S.length→i≠n→i≠m→S'[i]? = S[i]?)→K (.s (.int .i64 (cvF x y))) ⟨S',H⟩→C (.fn gF) (.s (.int .i64 x) :: .s (.int .i64 y) :: qF) ⟨S',H⟩ K
theorem AskC.setn {C:CallW} {n m:Nat} {S:List (List AV)} {H:List HObj} {x:List AV} (h:AskC C gF qF cvF n m S H):AskC C gF qF cvF n m (S.set n x) H :=
  ⟨fun k hk=>h.1 k (by simpa using hk),fun a b S' K e hK=>h.2 a b S' K (fun i hi h1 h2=>(e i (by simpa using hi) h1 h2).trans (List.getElem?_set_ne (Ne.symm h1))) hK⟩
theorem AskC.setm {C:CallW} {n m:Nat} {S:List (List AV)} {H:List HObj} {x:List AV} (h:AskC C gF qF cvF n m S H):AskC C gF qF cvF n m (S.set m x) H :=
  ⟨fun k hk=>h.1 k (by simpa using hk),fun a b S' K e hK=>h.2 a b S' K (fun i hi h1 h2=>(e i (by simpa using hi) h1 h2).trans (List.getElem?_set_ne (Ne.symm h2))) hK⟩
theorem AskC.app {C:CallW} {n:Nat} {S:List (List AV)} {H:List HObj} {T:List (List AV)} (h:AskC C gF qF cvF n n S H):AskC C gF qF cvF n S.length (S ++ T) H :=
  ⟨fun k hk=>h.1 k (by simp at hk; omega),fun a b S' K e hK=>h.2 a b S' K (fun i hi h1 h2=>(e i (by simp; omega) h1 (by omega)).trans (List.getElem?_append_left hi)) hK⟩
def SrtSF (C:CallW) (gF:FuncId) (qF:List AV) (cvF:Int→Int→Int) (f:FuncId) (X:Array Int→Nat→Nat→Array Int):Prop:=∀(n:Nat) (d:Array Int) (a b:Nat) S H (K:AV→St→Prop),AskC C gF qF cvF n n S H→S[n]? = some (flat iA d)→a≤b→b≤d.size→d.size≤4611686018427387904→K (.tup []) ⟨S.set n (flat iA (X d a b)),H⟩→C (.fn f) [.row (.stk n) 0 d.size d.size,.s (.int .i64 a),.s (.int .i64 b),.fn (.func gF) [] qF] ⟨S,H⟩ K
set_option maxHeartbeats 16000000 in
theorem insertionSort_specF {C:CallW} (hC:LeC C C) (P:Program):∀(n:Nat) (d:Array Int) (a b:Nat) S H (K:AV→St→Prop),AskC C gF qF cvF n n S H→S[n]? = some (flat iA d)→a≤b→b≤d.size→d.size≤4611686018427387904→K (.tup []) ⟨S.set n (flat iA (Sort.insertionSort (ltC cvF) d a b)),H⟩→runL C P Czw [.row (.stk n) 0 d.size d.size,.s (.int .i64 a),.s (.int .i64 b),.fn (.func gF) [] qF] ⟨S,H⟩ K:=by
  intro n d a b S H K hAsk hS hab hbd hdl hK
  have hqu:=hAsk.1 _ (Nat.le_refl _)
  have hn:=slt hS
  have hw0:IntKind.i64.wrap ((a:Int) + 1)=((a + 1:Nat):Int):=by rw [wrap_i64 (by omega) (by omega)]; omega
  simp only [Czw,A_,simprocAttr,ne_eq,Uzm.1,hw0]
  refine loop_rule hC (α:=Nat×Array Int) (fun x=>b - x.1) (fun x=>[.row (.stk n) 0 d.size d.size,.s (.int .i64 a),.s (.int .i64 b),.fn (.func gF) [] qF,uu,uu,uu,uu,.s (.int .i64 x.1),uu,uu,uu,uu,uu,uu,uu,uu,uu,uu,uu,uu,uu,uu,uu,uu,uu,uu,uu,uu,uu,uu,uu,uu,uu,uu,uu,uu,uu,uu,uu,uu,uu,uu,uu,uu,uu,uu,uu,uu,uu,uu,uu,uu]) (fun x=>S.set n (flat iA x.2)) (fun _=>H) (fun x=>a + 1≤x.1∧x.2.size=d.size∧Sort.insertionSort (ltC cvF) d a b=Sort.insOuter (ltC cvF) a b x.1 x.2) (a + 1,d) ⟨Nat.le_refl _,rfl,rfl⟩ (by simp [keep,zm]) (by rw [sself hS]; simp) rfl (fun x _=>by simp [AV.under,AV.under.go,hn,hqu]) ?_
  rintro ⟨i,e⟩ ⟨hi,hes,hinv⟩ ih
  dsimp only at hi hes hinv ih ⊢
  have hSe:(S.set n (flat iA e))[n]? = some (flat iA e):=sset hS
  by_cases hib:i < b
  case neg =>
    have hlt:¬((i:Int) < (b:Int)):=by omega
    rw [Sort.insOuter,if_neg hib] at hinv
    rw [hinv] at hK
    simp only [A_,simprocAttr,ne_eq,Uzm.1,hlt]
    exact hK
  have hlt:((i:Int) < (b:Int)):=by omega
  rw [Sort.insOuter,if_pos hib] at hinv
  simp only [A_,simprocAttr,ne_eq,Uzm.1,hlt]
  refine loop_rule hC (α:=Nat×Array Int) (fun x=>x.1) (fun x=>[.row (.stk n) 0 d.size d.size,.s (.int .i64 a),.s (.int .i64 b),.fn (.func gF) [] qF,uu,uu,uu,uu,.s (.int .i64 i),.s (.int .i64 x.1),uu,uu,uu,uu,uu,uu,uu,uu,uu,uu,uu,uu,uu,uu,uu,uu,uu,uu,uu,uu,uu,uu,uu,uu,uu,uu,uu,uu,uu,uu,uu,uu,uu,uu,uu,uu,uu,uu,uu,uu,uu,uu,uu]) (fun x=>S.set n (flat iA x.2)) (fun _=>H) (fun x=>x.1≤i∧x.2.size=d.size∧Sort.insInner (ltC cvF) a i e=Sort.insInner (ltC cvF) a x.1 x.2) (i,e) ⟨Nat.le_refl _,hes,rfl⟩ (by simp [keep,zm]) (by rw [List.take_of_length_le]; simp) rfl (fun x _=>by simp [AV.under,AV.under.go,hn,hqu]) ?_
  rintro ⟨j,g⟩ ⟨hj,hgs,hjv⟩ ih2
  dsimp only at hj hgs hjv ih2 ⊢
  have hSg:(S.set n (flat iA g))[n]? = some (flat iA g):=sset hS
  have hwi:IntKind.i64.wrap ((i:Int) + 1)=((i + 1:Nat):Int):=by rw [wrap_i64 (by omega) (by omega)]; omega
  have stop:Sort.insInner (ltC cvF) a i e=g→K (.tup []) ⟨S.set n (flat iA (Sort.insertionSort (ltC cvF) d a b)),H⟩→∀fr' S',keep (zm false [0,4,4,1,44]) fr'=[.row (.stk n) 0 d.size d.size,.s (.int .i64 a),.s (.int .i64 b),.fn (.func gF) [] qF,uu,uu,uu,uu,.s (.int .i64 (i + 1:Nat)),uu,uu,uu,uu,uu,uu,uu,uu,uu,uu,uu,uu,uu,uu,uu,uu,uu,uu,uu,uu,uu,uu,uu,uu,uu,uu,uu,uu,uu,uu,uu,uu,uu,uu,uu,uu,uu,uu,uu,uu,uu,uu,uu,uu]→S'.take S.length=S.set n (flat iA g)→runLp C P false (zm false [0,4,4,1,44]) y23a7 S.length [Item.blk 0] fr' ⟨S',H⟩ (fin S.length [] K):=fun h1 h2 fr' S' h3 h4=>ih (i + 1,g) fr' S' H (by dsimp only; omega) ⟨by dsimp only; omega,hgs,by rw [hinv,h1]⟩ h3 h4 rfl
  have fin1:∀fr',keep (zm false [0,4,4,1,44]) fr'=[.row (.stk n) 0 d.size d.size,.s (.int .i64 a),.s (.int .i64 b),.fn (.func gF) [] qF,uu,uu,uu,uu,.s (.int .i64 (i + 1:Nat)),uu,uu,uu,uu,uu,uu,uu,uu,uu,uu,uu,uu,uu,uu,uu,uu,uu,uu,uu,uu,uu,uu,uu,uu,uu,uu,uu,uu,uu,uu,uu,uu,uu,uu,uu,uu,uu,uu,uu,uu,uu,uu,uu,uu]→Sort.insInner (ltC cvF) a i e=g→runLp C P false (zm false [0,4,4,1,44]) y23a7 S.length [Item.blk 0] fr' ⟨S.set n (flat iA g),H⟩ (fin S.length [] K):=fun fr' h3 h1=>stop h1 hK fr' _ h3 (by rw [List.take_of_length_le]; simp)
  clear stop
  by_cases hja:a < j
  case neg =>
    have hjl:¬((a:Int) < (j:Int)):=by omega
    simp only [A_,simprocAttr,ne_eq,Uzm.1,hjl,hwi]
    refine fin1 _ (by simp [keep,zm]) ?_
    rw [hjv]
    cases j with
    | zero=>rfl
    | succ j=>rw [Sort.insInner,if_neg (by simp; omega)]
  obtain ⟨k,rfl⟩:∃k,j=k + 1:=⟨j - 1,by omega⟩
  have hjl:((a:Int) < ((k + 1:Nat):Int)):=by omega
  have hwk:IntKind.i64.wrap (((k + 1:Nat):Int) - 1)=((k:Nat):Int):=by rw [wrap_i64 (by omega) (by omega)]; omega
  have x1:∀kk:IntKind,indexAddrL (.sl 1) (.row (.stk n) 0 d.size d.size) (.s (.int kk ((k + 1:Nat):Int)))=some (.ptr (.stk n) (k + 1)):=fun kk=>ixi (by omega)
  have x2:∀kk:IntKind,indexAddrL (.sl 1) (.row (.stk n) 0 d.size d.size) (.s (.int kk (k:Int)))=some (.ptr (.stk n) k):=fun kk=>ixi (by omega)
  have r1:=ird (H:=H) hSg (i:=k + 1) (by omega)
  have r2:=ird (H:=H) hSg (i:=k) (by omega)
  simp only [A_,simprocAttr,ne_eq,Uzm.1,hjl,hwk,x1,x2,r1,r2]
  refine hAsk.2 _ _ _ _ (by first | exact fun _ _ _ _=>rfl | exact fun i _ h _=>List.getElem?_set_ne (Ne.symm h)) ?_
  cases hlk:(ltC cvF) g[k + 1]! g[k]! with
  | false =>
    have hlc:=ltC_f hlk
    simp only [A_,simprocAttr,ne_eq,Uzm.1,hlc,hwi]
    refine fin1 _ (by simp [keep,zm]) ?_
    rw [hjv,Sort.insInner,hlk,if_neg (by simp)]
  | true =>
    have hlc:=ltC_t hlk
    have w1:=iwr (H:=H) (x:=g[k]!) hSg (i:=k + 1) (by omega)
    have hSg2:(S.set n (flat iA (g.setIfInBounds (k + 1) g[k]!)))[n]? = some (flat iA (g.setIfInBounds (k + 1) g[k]!)):=sset hS
    have w2:=iwr (H:=H) (x:=g[k + 1]!) hSg2 (i:=k) (by simp; omega)
    rw [List.set_set] at w1 w2
    simp only [A_,simprocAttr,ne_eq,Uzm.1,hlc,hwk,x1,x2,r1,r2,w1,w2]
    refine ih2 (k,Sort.swp g (k + 1) k) _ _ _ (by dsimp only; omega) ⟨by dsimp only; omega,by rw [swp_size]; exact hgs,?_⟩ (by simp [keep,zm]) (by rw [List.take_of_length_le]; rfl; simp) rfl
    dsimp only
    rw [hjv,Sort.insInner,hlk,if_pos (by simp; omega)]
end Go.AM
namespace Go.AM
open Go
open AV renaming undef → uu
set_option maxRecDepth 20000
variable {gF:FuncId} {qF:List AV} {cvF:Int→Int→Int}
def SiftSF (C:CallW) (gF:FuncId) (qF:List AV) (cvF:Int→Int→Int) (f:FuncId):Prop:=∀(n:Nat) (d:Array Int) (lo hi first:Nat) S H (K:AV→St→Prop),AskC C gF qF cvF n n S H→S[n]? = some (flat iA d)→first + hi≤d.size→lo≤2305843009213693952→d.size≤2305843009213693952→K (.tup []) ⟨S.set n (flat iA (Sort.siftDown (ltC cvF) hi first lo d)),H⟩→C (.fn f) [.row (.stk n) 0 d.size d.size,.s (.int .i64 lo),.s (.int .i64 hi),.s (.int .i64 first),.fn (.func gF) [] qF] ⟨S,H⟩ K
set_option maxHeartbeats 16000000 in
theorem siftDown_specF {C:CallW} (hC:LeC C C) (P:Program):∀(n:Nat) (d:Array Int) (lo hi first:Nat) S H (K:AV→St→Prop),AskC C gF qF cvF n n S H→S[n]? = some (flat iA d)→first + hi≤d.size→lo≤2305843009213693952→d.size≤2305843009213693952→K (.tup []) ⟨S.set n (flat iA (Sort.siftDown (ltC cvF) hi first lo d)),H⟩→runL C P Cz1v [.row (.stk n) 0 d.size d.size,.s (.int .i64 lo),.s (.int .i64 hi),.s (.int .i64 first),.fn (.func gF) [] qF] ⟨S,H⟩ K:=by
  intro n d lo hi first S H K hAsk hS hfh hlo hdl hK
  have hqu:=hAsk.1 _ (Nat.le_refl _)
  have hn:=slt hS
  generalize hX:Sort.siftDown (ltC cvF) hi first lo d=X at hK
  simp only [Cz1v,A_,simprocAttr,ne_eq,Uzi.1]
  refine loop_rule hC (α:=Nat×Array Int) (fun x=>hi - x.1) (fun x=>[.row (.stk n) 0 d.size d.size,.undef,.s (.int .i64 hi),.s (.int .i64 first),.fn (.func gF) [] qF,uu,uu,uu,uu,uu,.s (.int .i64 x.1),uu,uu,uu,uu,uu,uu,uu,uu,uu,uu,uu,uu,uu,uu,uu,uu,uu,uu,uu,uu,uu,uu,uu,uu,uu,uu,uu,uu,uu,uu,uu,uu,uu,uu,uu,uu,uu,uu,uu,uu,uu,uu,uu,uu,uu,uu,uu,uu,uu,uu,uu,uu,uu,uu,uu,uu,uu,uu,uu,uu,uu,uu,uu,uu,uu,uu,uu,uu,uu,uu,uu]) (fun x=>S.set n (flat iA x.2)) (fun _=>H) (fun x=>x.1≤2305843009213693952∧x.2.size=d.size∧X=Sort.siftDown (ltC cvF) hi first x.1 x.2) (lo,d) ⟨hlo,rfl,hX.symm⟩ (by simp [keep,zm]) (by rw [sself hS]; simp) rfl (fun x _=>by simp [AV.under,AV.under.go,hn,hqu]) ?_
  rintro ⟨r,e⟩ ⟨hr,hes,hinv⟩ ih
  dsimp only at hr hes hinv ih ⊢
  have hSe:(S.set n (flat iA e))[n]? = some (flat iA e):=sset hS
  have hw2:IntKind.i64.wrap (2 * (r:Int))=((2 * r:Nat):Int):=by rw [wrap_i64 (by omega) (by omega)]; omega
  have hw3:IntKind.i64.wrap (((2 * r:Nat):Int) + 1)=((2 * r + 1:Nat):Int):=by rw [wrap_i64 (by omega) (by omega)]; omega
  rw [Sort.siftDown] at hinv
  by_cases hc:2 * r + 1≥hi
  · have hc':((hi:Int)≤((2 * r + 1:Nat):Int)):=by omega
    rw [dif_pos hc] at hinv
    rw [hinv] at hK
    simp only [A_,simprocAttr,ne_eq,Uzi.1,hw2,hw3,hc']
    exact hK
  have hc':¬((hi:Int)≤((2 * r + 1:Nat):Int)):=by omega
  rw [dif_neg hc] at hinv
  have hw4:IntKind.i64.wrap (((2 * r + 1:Nat):Int) + 1)=((2 * r + 2:Nat):Int):=by rw [wrap_i64 (by omega) (by omega)]; omega
  have a0:IntKind.i64.wrap ((first:Int) + (r:Int))=((first + r:Nat):Int):=by rw [wrap_i64 (by omega) (by omega)]; omega
  have a1:IntKind.i64.wrap ((first:Int) + ((2 * r + 1:Nat):Int))=((first + (2 * r + 1):Nat):Int):=by rw [wrap_i64 (by omega) (by omega)]; omega
  have a2:IntKind.i64.wrap ((first:Int) + ((2 * r + 2:Nat):Int))=((first + (2 * r + 2):Nat):Int):=by rw [wrap_i64 (by omega) (by omega)]; omega
  have a3:IntKind.i64.wrap (((first + (2 * r + 1):Nat):Int) + 1)=((first + (2 * r + 2):Nat):Int):=by rw [wrap_i64 (by omega) (by omega)]; omega
  have x0:∀kk:IntKind,indexAddrL (.sl 1) (.row (.stk n) 0 d.size d.size) (.s (.int kk ((first + r:Nat):Int)))=some (.ptr (.stk n) (first + r)):=fun kk=>ixi (by omega)
  have x1:∀kk:IntKind,indexAddrL (.sl 1) (.row (.stk n) 0 d.size d.size) (.s (.int kk ((first + (2 * r + 1):Nat):Int)))=some (.ptr (.stk n) (first + (2 * r + 1))):=fun kk=>ixi (by omega)
  have r0:=ird (H:=H) hSe (i:=first + r) (by omega)
  have r1:=ird (H:=H) hSe (i:=first + (2 * r + 1)) (by omega)
  by_cases hc2:2 * r + 1 + 1 < hi
  · have hc2':(((2 * r + 2:Nat):Int) < (hi:Int)):=by omega
    have x2:∀kk:IntKind,indexAddrL (.sl 1) (.row (.stk n) 0 d.size d.size) (.s (.int kk ((first + (2 * r + 2):Nat):Int)))=some (.ptr (.stk n) (first + (2 * r + 2))):=fun kk=>ixi (by omega)
    have r2:=ird (H:=H) hSe (i:=first + (2 * r + 2)) (by omega)
    simp only [A_,simprocAttr,ne_eq,Uzi.1,hw2,hw3,hw4,hc',hc2',a0,a1,a2,a3,x0,x1,x2,r0,r1,r2]
    refine hAsk.2 _ _ _ _ (by first | exact fun _ _ _ _=>rfl | exact fun i _ h _=>List.getElem?_set_ne (Ne.symm h)) ?_
    cases hl1:(ltC cvF) e[first + (2 * r + 1)]! e[first + (2 * r + 2)]! with
    | true =>
      have hlc:=ltC_t hl1
      rw [if_pos (by rw [Bool.and_eq_true]; exact ⟨decide_eq_true hc2,hl1⟩)] at hinv
      simp only [A_,simprocAttr,ne_eq,Uzi.1,hlc,hw2,hw3,hw4,a0,a1,a2,a3,x0,x1,x2,r0,r1,r2]
      refine hAsk.2 _ _ _ _ (by first | exact fun _ _ _ _=>rfl | exact fun i _ h _=>List.getElem?_set_ne (Ne.symm h)) ?_
      cases hl2:(ltC cvF) e[first + r]! e[first + (2 * r + 2)]! with
      | false =>
        have hlc:=ltC_f hl2
        rw [hl2,if_pos (by rfl)] at hinv
        rw [hinv] at hK
        simp only [A_,simprocAttr,ne_eq,Uzi.1,hlc]
        exact hK
      | true =>
        have hlc:=ltC_t hl2
        rw [hl2,if_neg (by simp),dif_pos hc2] at hinv
        have w1:=iwr (H:=H) (x:=e[first + (2 * r + 2)]!) hSe (i:=first + r) (by omega)
        have hS2:(S.set n (flat iA (e.setIfInBounds (first + r) e[first + (2 * r + 2)]!)))[n]? = some (flat iA (e.setIfInBounds (first + r) e[first + (2 * r + 2)]!)):=sset hS
        have w2:=iwr (H:=H) (x:=e[first + r]!) hS2 (i:=first + (2 * r + 2)) (by simp; omega)
        rw [List.set_set] at w1 w2
        simp only [A_,simprocAttr,ne_eq,Uzi.1,hlc,hw2,hw3,hw4,a0,a1,a2,a3,x0,x1,x2,r0,r1,r2,w1,w2]
        exact ih (2 * r + 2,Sort.swp e (first + r) (first + (2 * r + 2))) _ _ _ (by dsimp only; omega) ⟨by dsimp only; omega,by rw [swp_size]; exact hes,hinv⟩ (by simp [keep,zm]) (by rw [List.take_of_length_le]; rfl; simp) rfl
    | false =>
      have hlc:=ltC_f hl1
      rw [if_neg (by rw [Bool.and_eq_true]; rintro ⟨_,h⟩; rw [show first + (2 * r + 1) + 1=first + (2 * r + 2) from rfl,hl1] at h; cases h)] at hinv
      simp only [A_,simprocAttr,ne_eq,Uzi.1,hlc,hw2,hw3,hw4,a0,a1,a2,a3,x0,x1,x2,r0,r1,r2]
      refine hAsk.2 _ _ _ _ (by first | exact fun _ _ _ _=>rfl | exact fun i _ h _=>List.getElem?_set_ne (Ne.symm h)) ?_
      cases hl2:(ltC cvF) e[first + r]! e[first + (2 * r + 1)]! with
      | false =>
        have hlc:=ltC_f hl2
        rw [hl2,if_pos (by rfl)] at hinv
        rw [hinv] at hK
        simp only [A_,simprocAttr,ne_eq,Uzi.1,hlc]
        exact hK
      | true =>
        have hlc:=ltC_t hl2
        rw [hl2,if_neg (by simp)] at hinv
        have w1:=iwr (H:=H) (x:=e[first + (2 * r + 1)]!) hSe (i:=first + r) (by omega)
        have hS2:(S.set n (flat iA (e.setIfInBounds (first + r) e[first + (2 * r + 1)]!)))[n]? = some (flat iA (e.setIfInBounds (first + r) e[first + (2 * r + 1)]!)):=sset hS
        have w2:=iwr (H:=H) (x:=e[first + r]!) hS2 (i:=first + (2 * r + 1)) (by simp; omega)
        rw [List.set_set] at w1 w2
        simp only [A_,simprocAttr,ne_eq,Uzi.1,hlc,hw2,hw3,hw4,a0,a1,a2,a3,x0,x1,x2,r0,r1,r2,w1,w2]
        exact ih (2 * r + 1,Sort.swp e (first + r) (first + (2 * r + 1))) _ _ _ (by dsimp only; omega) ⟨by dsimp only; omega,by rw [swp_size]; exact hes,hinv⟩ (by simp [keep,zm]) (by rw [List.take_of_length_le]; rfl; simp) rfl
  · have hc2':¬(((2 * r + 2:Nat):Int) < (hi:Int)):=by omega
    rw [if_neg (by rw [Bool.and_eq_true]; rintro ⟨h,_⟩; exact hc2 (of_decide_eq_true h))] at hinv
    simp only [A_,simprocAttr,ne_eq,Uzi.1,hw2,hw3,hw4,hc',hc2',a0,a1,a2,a3,x0,x1,r0,r1]
    refine hAsk.2 _ _ _ _ (by first | exact fun _ _ _ _=>rfl | exact fun i _ h _=>List.getElem?_set_ne (Ne.symm h)) ?_
    cases hl2:(ltC cvF) e[first + r]! e[first + (2 * r + 1)]! with
    | false =>
      have hlc:=ltC_f hl2
      rw [hl2,if_pos (by rfl)] at hinv
      rw [hinv] at hK
      simp only [A_,simprocAttr,ne_eq,Uzi.1,hlc]
      exact hK
    | true =>
      have hlc:=ltC_t hl2
      rw [hl2,if_neg (by simp)] at hinv
      have w1:=iwr (H:=H) (x:=e[first + (2 * r + 1)]!) hSe (i:=first + r) (by omega)
      have hS2:(S.set n (flat iA (e.setIfInBounds (first + r) e[first + (2 * r + 1)]!)))[n]? = some (flat iA (e.setIfInBounds (first + r) e[first + (2 * r + 1)]!)):=sset hS
      have w2:=iwr (H:=H) (x:=e[first + r]!) hS2 (i:=first + (2 * r + 1)) (by simp; omega)
      rw [List.set_set] at w1 w2
      simp only [A_,simprocAttr,ne_eq,Uzi.1,hlc,hw2,hw3,hw4,a0,a1,a2,a3,x0,x1,r0,r1,w1,w2]
      exact ih (2 * r + 1,Sort.swp e (first + r) (first + (2 * r + 1))) _ _ _ (by dsimp only; omega) ⟨by dsimp only; omega,by rw [swp_size]; exact hes,hinv⟩ (by simp [keep,zm]) (by rw [List.take_of_length_le]; rfl; simp) rfl
end Go.AM
