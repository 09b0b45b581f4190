import Derived.Test.YtlnclcpffepfaaaM10
import Derived.Test.YtlnclcpffepfaaaM7
import Derived.OpenShut
import Derived.Carry
import Derived.ChangeOld
set_option linter.unusedSimpArgs false
set_option linter.unusedVariables false
namespace Go.AM
open Go
set_option maxRecDepth 20000
def ver0:Ver:=⟨⟨0,0⟩,[],false⟩
def ChX (X:AV) (vs:List Ver):Prop:=X=chK vs∨X=lstV vs∨(vs=[]∧∃fl,X = .list fl 4 [])
theorem bare_app:∀{a b:List AV},AV.bare.go (a ++ b)=(AV.bare.go a && AV.bare.go b)
  | [],b=>by simp [AV.bare.go]
  | x :: a,b=>by simp [AV.bare.go,bare_app (a:=a),Bool.and_assoc]
theorem bare_V:∀l:List Ver,AV.bare.go ((l.map verA).flatMap AV.cells)=true
  | []=>rfl
  | v :: l=>by rw [List.map_cons,List.flatMap_cons,bare_app,bare_V l]; rfl
theorem ro_ch {S:List (List AV)} {H:List HObj} {b:Nat} {X:AV} {vs:List Ver} (hb:H[b]? = some (.cells [X])) (hX:ChX X vs) {r r':List AV} (hr:RoL ⟨S,H⟩ r r'):RoL ⟨S,H⟩ (.ptr (.heap b) 0 :: r) (.rop [lstV vs] :: r'):=by
  have hbo:boxOf ⟨S,H⟩ (.heap b)=some [X]:=by simp [boxOf,hb]
  refine .ptr hbo ?_ (fun c hc => ?_) rfl hr
  · show RoL _ [X] [lstV vs]
    rcases hX with rfl | rfl | ⟨rfl,fl,rfl⟩
    · unfold chK lstV
      cases vs with
      | nil=>exact .nilS (by omega) .nil
      | cons v vs=>exact .list (bare_V _) .nil
    · exact .list (bare_V _) .nil
    · exact .list rfl .nil
  · have:=List.mem_singleton.1 hc
    subst this
    rfl
theorem ro_s {σ:St} {s:Stp}:RoL σ [.agg (stc s)] [.agg (stc s)] := .bare rfl .nil
theorem alone_of {P:Program} {C:CallW} (hk:KitW P C) {f:FuncId} {args bs:List AV} {σ:St} {v:AV} {K:AV→St→Prop} (hr:RoL σ args bs) (h:C (.fn f) bs ⟨[],[]⟩ fun u _=>u=v) (hv:v.alone=true) (hK:K v σ):C (.fn f) args σ K :=
  hk.alone f args bs σ K _ hr h fun u s e=>by subst e; exact ⟨hv,hK⟩
def RPlaceS (C:CallW) (f:FuncId):Prop:=∀(vs:List Ver) (s:Stp) S H (K:AV→St→Prop),SorV vs→vs.length≤1000→K (.tup [.s (.int .i64 (idxV vs s:Nat)),.s (.bool (hasV vs s))]) ⟨S,H⟩→C (.fn f) [.rop [lstV vs],.agg (stc s)] ⟨S,H⟩ K
def RHasS (C:CallW) (f:FuncId):Prop:=∀(vs:List Ver) (s:Stp) S H (K:AV→St→Prop),SorV vs→vs.length≤1000→K (.s (.bool (hasV vs s))) ⟨S,H⟩→C (.fn f) [.rop [lstV vs],.agg (stc s)] ⟨S,H⟩ K
def RUntS (C:CallW) (f:FuncId):Prop:=∀(vs:List Ver) (s:Stp) S H (K:AV→St→Prop),SorV vs→vs.length≤1000→K (.s (.int .i64 (untV vs s:Nat))) ⟨S,H⟩→C (.fn f) [.rop [lstV vs],.agg (stc s)] ⟨S,H⟩ K
def RAtS (C:CallW) (f:FuncId):Prop:=∀(vs:List Ver) (s:Stp) S H (K:AV→St→Prop),SorV vs→vs.length≤1000→K (.tup [.agg (verc ((atV vs s).getD ver0)),.s (.bool (atV vs s).isSome)]) ⟨S,H⟩→C (.fn f) [.rop [lstV vs],.agg (stc s)] ⟨S,H⟩ K
def RNewS (C:CallW) (f:FuncId):Prop:=∀(vs:List Ver) S H (K:AV→St→Prop),vs.length≤1000→K (.tup [.agg (verc (vs.getLast?.getD ver0)),.s (.bool vs.getLast?.isSome)]) ⟨S,H⟩→C (.fn f) [.rop [lstV vs]] ⟨S,H⟩ K
def RLenS (C:CallW) (f:FuncId):Prop:=∀(vs:List Ver) S H (K:AV→St→Prop),K (.s (.int .i64 (vs.length:Nat))) ⟨S,H⟩→C (.fn f) [.rop [lstV vs]] ⟨S,H⟩ K
def PHasS (C:CallW) (f:FuncId):Prop:=∀(b:Nat) (X:AV) (vs:List Ver) (s:Stp) S H (K:AV→St→Prop),H[b]? = some (.cells [X])→ChX X vs→SorV vs→vs.length≤1000→K (.s (.bool (hasV vs s))) ⟨S,H⟩→C (.fn f) [.ptr (.heap b) 0,.agg (stc s)] ⟨S,H⟩ K
def PPlaceS (C:CallW) (f:FuncId):Prop:=∀(b:Nat) (X:AV) (vs:List Ver) (s:Stp) S H (K:AV→St→Prop),H[b]? = some (.cells [X])→ChX X vs→SorV vs→vs.length≤1000→K (.tup [.s (.int .i64 (idxV vs s:Nat)),.s (.bool (hasV vs s))]) ⟨S,H⟩→C (.fn f) [.ptr (.heap b) 0,.agg (stc s)] ⟨S,H⟩ K
def PUntS (C:CallW) (f:FuncId):Prop:=∀(b:Nat) (X:AV) (vs:List Ver) (s:Stp) S H (K:AV→St→Prop),H[b]? = some (.cells [X])→ChX X vs→SorV vs→vs.length≤1000→K (.s (.int .i64 (untV vs s:Nat))) ⟨S,H⟩→C (.fn f) [.ptr (.heap b) 0,.agg (stc s)] ⟨S,H⟩ K
def PAtS (C:CallW) (f:FuncId):Prop:=∀(b:Nat) (X:AV) (vs:List Ver) (s:Stp) S H (K:AV→St→Prop),H[b]? = some (.cells [X])→ChX X vs→SorV vs→vs.length≤1000→K (.tup [.agg (verc ((atV vs s).getD ver0)),.s (.bool (atV vs s).isSome)]) ⟨S,H⟩→C (.fn f) [.ptr (.heap b) 0,.agg (stc s)] ⟨S,H⟩ K
def PNewS (C:CallW) (f:FuncId):Prop:=∀(b:Nat) (X:AV) (vs:List Ver) S H (K:AV→St→Prop),H[b]? = some (.cells [X])→ChX X vs→vs.length≤1000→K (.tup [.agg (verc (vs.getLast?.getD ver0)),.s (.bool vs.getLast?.isSome)]) ⟨S,H⟩→C (.fn f) [.ptr (.heap b) 0] ⟨S,H⟩ K
def PLenS (C:CallW) (f:FuncId):Prop:=∀(b:Nat) (X:AV) (vs:List Ver) S H (K:AV→St→Prop),H[b]? = some (.cells [X])→ChX X vs→K (.s (.int .i64 (vs.length:Nat))) ⟨S,H⟩→C (.fn f) [.ptr (.heap b) 0] ⟨S,H⟩ K
def PPutS (C:CallW) (f:FuncId):Prop:=∀(b:Nat) (vs:List Ver) (v:Ver) S H (K:AV→St→Prop),H[b]? = some (.cells [chK vs])→SorV vs→vs.length≤50→K (.s (.int .i64 (putV vs v).1)) ⟨S,H.set b (.cells [chK (putV vs v).2])⟩→C (.fn f) [.ptr (.heap b) 0,.agg (verc v)] ⟨S,H⟩ K
def PTrimS (C:CallW) (f:FuncId):Prop:=∀(b:Nat) (vs:List Ver) (s:Stp) S H (K:AV→St→Prop),H[b]? = some (.cells [chK vs])→vs≠[]→SorV vs→vs.length≤50→(∀X,(vs.drop (cutV vs s)≠[]→X=chK (vs.drop (cutV vs s)))→ChX X (vs.drop (cutV vs s))→K (.s (.int .i64 (cutV vs s:Nat))) ⟨S,H.set b (.cells [X])⟩)→C (.fn f) [.ptr (.heap b) 0,.agg (stc s)] ⟨S,H⟩ K
section
variable {P:Program} {C:CallW} {f:FuncId}
theorem p_has (hk:KitW P C) (h:RHasS C f):PHasS C f:=fun b X vs s S H K hb hX h1 h2 hK=>alone_of hk (ro_ch hb hX ro_s) (h vs s _ _ _ h1 h2 rfl) rfl hK
theorem p_place (hk:KitW P C) (h:RPlaceS C f):PPlaceS C f:=fun b X vs s S H K hb hX h1 h2 hK=>alone_of hk (ro_ch hb hX ro_s) (h vs s _ _ _ h1 h2 rfl) rfl hK
theorem p_unt (hk:KitW P C) (h:RUntS C f):PUntS C f:=fun b X vs s S H K hb hX h1 h2 hK=>alone_of hk (ro_ch hb hX ro_s) (h vs s _ _ _ h1 h2 rfl) rfl hK
theorem p_at (hk:KitW P C) (h:RAtS C f):PAtS C f:=fun b X vs s S H K hb hX h1 h2 hK=>alone_of hk (ro_ch hb hX ro_s) (h vs s _ _ _ h1 h2 rfl) rfl hK
theorem p_new (hk:KitW P C) (h:RNewS C f):PNewS C f:=fun b X vs S H K hb hX h2 hK=>alone_of hk (ro_ch hb hX .nil) (h vs _ _ _ h2 rfl) rfl hK
theorem p_len (hk:KitW P C) (h:RLenS C f):PLenS C f:=fun b X vs S H K hb hX hK=>alone_of hk (ro_ch hb hX .nil) (h vs _ _ _ rfl) rfl hK
end
end Go.AM
namespace Go.AM
open Go
set_option maxRecDepth 20000
def y40a1:LCode:=(.seq (.sq [(zs 1 (.build [(.s .nilS)] [])),(zs 2 (.box false true (.t 1))),(zs 0 (.mv true (.t 2)))]) .ret)
def Uz5c:=PLift.up (@unfC _ _ (y40a1.eq_1))
def Cz2y:LFn:=⟨3,[.t 0],(.seq (.sq [(zs 0 (.mv true (.c .nilP)))]) y40a1)⟩
def y40b1 (c:Nat→FuncId):LCode:=(.seq (.sq [(zs 5 (.shift 0 (.t 2))),(zs 6 (.loadA 2 (.t 5))),(zs 7 (.loadA 2 (.t 3))),(zs 8 (.call (.f (c 0)) [(.t 6),(.t 7)])),(zs 4 (.mv true (.t 8)))]) .ret)
def Uz1s (c:Nat→FuncId):=PLift.up (@unfC _ _ (y40b1.eq_1 c))
def Czz (c:Nat→FuncId):LFn:=⟨9,[.t 4],(.seq (.sq [(zs 2 (.box false false (.t 0))),(zs 3 (.box false false (.t 1))),(zs 4 (.mv true (zi 0)))]) (y40b1 c))⟩
def y40c1:LCode:=(.sq [(zv 32 11),(zs 33 (.bin .add .sc (.t 32) (zi 1))),(zs 9 (.mv true (.t 33)))])
def y40c2:LCode:=(.cond (.t 31) y40c1 (.sq [(zv 34 11),(zs 10 (.mv true (.t 34)))]))
def y40c3:LCode:=(.seq (.tree (.rd (zv 24 2) 0 false (.rd (zv 25 0) 1 false (.rd (zv 26 11) 2 false (.rd (zs 27 (.ixa (.sl 4) (.t 25) (.t 26))) 3 false (.rd (zs 28 (.loadA 4 (.t 27))) 4 false (.rd (zs 29 (.loadA 2 (.t 4))) 5 false (.mv (zs 30 (.call (.t 24) [(.t 28),(.t 29)])) [0,1,2,3,4,5] (.rd (zs 31 (.bin .lss .sc (.t 30) (zi 0))) 7 false .done) .stop)))))))) y40c2)
def y40c4:LCode:=(.block 1 (.seq (.sq [(zv 18 9),(zv 19 10),(zs 20 (.bin .add .sc (.t 18) (.t 19))),(zs 21 (.conv (.int .u64) (.t 20))),(zs 22 (.bin .shr .sc (.t 21) (.c (.int .u64 1)))),(zs 23 (.conv (.int .i64) (.t 22))),(zs 11 (.mv true (.t 23)))]) y40c3))
def y40c5:LCode:=(.seq (.seq (.sq [(zv 15 9),(zv 16 10),(zs 17 (.bin .lss .sc (.t 15) (.t 16)))]) (.cond (.t 17) .skip (.exit 0))) y40c4)
def y40c6:LCode:=(.seq (.tree (.rd (zv 35 9) 0 true (.rd (zv 36 9) 1 false (.rd (zv 37 8) 2 false (.rd (zs 38 (.bin .lss .sc (.t 36) (.t 37))) 3 false (.rd (zv 39 38) 4 false (.rd (zt 40 39 (.mv false (.t 2))) 5 false (.rd (zt 41 39 (.mv false (.t 0))) 6 false (.rd (zt 42 39 (.mv false (.t 9))) 7 false (.rd (zt 43 39 (.ixa (.sl 4) (.t 41) (.t 42))) 8 false (.rd (zt 44 39 (.loadA 4 (.t 43))) 9 false (.rd (zt 45 39 (.loadA 2 (.t 4))) 10 false (.mv (zt 46 39 (.call (.t 40) [(.t 44),(.t 45)])) [1,2,3,4,5,6,7,8,9,10] (.rd (zt 47 39 (.bin .eql .sc (.t 46) (zi 0))) 12 true (.rd (zs 48 (.pick (.t 39) (.t 47) zF)) 13 true (.mv (zs 6 (.mv true (.t 35))) [0,1,2,3,4,5,6,7,8,9,10,11] (.mv (zs 7 (.mv true (.t 48))) [0,1,2,3,4,5,6,7,8,9,10,11,12,13,14] .done .stop) .stop))) .stop))))))))))))) .ret)
def y40c7:LCode:=(.seq (.block 0 (.loop (zm false [0,1,1,1,1,1,3,3,38]) y40c5)) y40c6)
def y40c8:LCode:=(.seq (.sq [(zv 14 8),(zs 9 (.mv true (zi 0))),(zs 10 (.mv true (.t 14)))]) y40c7)
def y40c9:LCode:=(.seq (.sq [(zv 12 0),(zs 13 (.len .sl (.t 12))),(zs 8 (.mv true (.t 13)))]) y40c8)
def Uz8:=PLift.up (zc (zc (zc (@unfC _ _ (y40c1.eq_1)) (@unfC _ _ (y40c2.eq_1))) (zc (@unfC _ _ (y40c3.eq_1)) (@unfC _ _ (y40c4.eq_1)))) (zc (zc (@unfC _ _ (y40c5.eq_1)) (@unfC _ _ (y40c6.eq_1))) (zc (@unfC _ _ (y40c7.eq_1)) (zc (@unfC _ _ (y40c8.eq_1)) (@unfC _ _ (y40c9.eq_1))))))
def Cz3:LFn:=⟨49,[.t 6,.t 7],(.seq (.sq [(zs 4 (.box false false (.t 1))),(zs 6 (.mv true (zi 0))),(zs 7 (.mv true zF))]) y40c9)⟩
def y40d1 (c:Nat→FuncId):LCode:=(.seq (.tree (.rd (zv 6 0) 0 false (.rd (zs 7 (.nilc (.t 6))) 1 false (.rd (zs 8 (.shift 0 (.t 7))) 2 false (.rd (zs 9 (.load1 false (.t 8))) 3 false (.rd (zs 10 (.loadA 2 (.t 3))) 4 false (.mv (zs 11 (.call (.f (c 0)) [(.t 9),(.t 10),(.f (c 1))])) [0,1,2,3,4] (.rd (zs 12 (.ext (.t 11) 0)) 6 false (.rd (zs 13 (.ext (.t 11) 1)) 7 false (.mv (zs 4 (.mv true (.t 12))) [0,1,2,3,4,5,6,7] (.mv (zs 5 (.mv true (.t 13))) [0,1,2,3,4,5,6,7,8] .done .stop) .stop))) .stop))))))) .ret)
def Uz1z (c:Nat→FuncId):=PLift.up (@unfC _ _ (y40d1.eq_1 c))
def Cz15 (c:Nat→FuncId):LFn:=⟨14,[.t 4,.t 5],(.seq (.sq [(zs 3 (.box false false (.t 1))),(zs 4 (.mv true (zi 0))),(zs 5 (.mv true zF))]) (y40d1 c))⟩
def y40e1 (c:Nat→FuncId):LCode:=(.seq (.sq [(zv 8 0),(zs 9 (.loadA 2 (.t 3))),(zs 10 (.call (.f (c 0)) [(.t 8),(.t 9)])),(zv 7 10),(zs 11 (.ext (.t 7) 0)),(zs 12 (.ext (.t 7) 1)),(zs 5 (.mv true (.t 11))),(zs 6 (.mv true (.t 12)))]) (.seq (.sq [(zv 13 6),(zs 4 (.mv true (.t 13)))]) .ret))
def Uz25 (c:Nat→FuncId):=PLift.up (@unfC _ _ (y40e1.eq_1 c))
def Cz1c (c:Nat→FuncId):LFn:=⟨14,[.t 4],(.seq (.sq [(zs 3 (.box false false (.t 1))),(zs 4 (.mv true zF))]) (y40e1 c))⟩
def y40f1 (c:Nat→FuncId):LCode:=(.sq [(zv 14 5),(zs 15 (.bin .add .sc (.t 14) (zi 1))),(zs 5 (.mv true (.t 15)))])
def y40f2 (c:Nat→FuncId):LCode:=(.seq (.seq (.sq [(zv 13 6)]) (.cond (.t 13) (y40f1 c) .skip)) (.seq (.sq [(zv 16 5),(zs 4 (.mv true (.t 16)))]) .ret))
def y40f3 (c:Nat→FuncId):LCode:=(.seq (.sq [(zv 8 0),(zs 9 (.loadA 2 (.t 3))),(zs 10 (.call (.f (c 0)) [(.t 8),(.t 9)])),(zv 7 10),(zs 11 (.ext (.t 7) 0)),(zs 12 (.ext (.t 7) 1)),(zs 5 (.mv true (.t 11))),(zs 6 (.mv true (.t 12)))]) (y40f2 c))
def Uz1h (c:Nat→FuncId):=PLift.up (zc (@unfC _ _ (y40f1.eq_1 c)) (zc (@unfC _ _ (y40f2.eq_1 c)) (@unfC _ _ (y40f3.eq_1 c))))
def Czv (c:Nat→FuncId):LFn:=⟨17,[.t 4],(.seq (.sq [(zs 3 (.box false false (.t 1))),(zs 4 (.mv true (zi 0)))]) (y40f3 c))⟩
def y40g1 (c:Nat→FuncId):LCode:=(.seq (.sq [(zs 12 (.build [(.s (.int .i64 0)),(.s (.int .u8 0)),(.s (.str [])),(.s (.bool false))] [])),(zn (.store 4 (.t 4) (.t 12))),(zs 5 (.mv true zF))]) .ret)
def y40g2 (c:Nat→FuncId):LCode:=(.seq (.sq [(zv 13 0),(zs 14 (.nilc (.t 13))),(zs 15 (.shift 0 (.t 14))),(zs 16 (.load1 false (.t 15))),(zv 17 6),(zs 18 (.bin .sub .sc (.t 17) (zi 1))),(zs 19 (.ixa (.sl 4) (.t 16) (.t 18))),(zs 20 (.loadA 4 (.t 19))),(zn (.store 4 (.t 4) (.t 20))),(zs 5 (.mv true zT))]) .ret)
def y40g3 (c:Nat→FuncId):LCode:=(.seq (.seq (.sq [(zv 10 6),(zs 11 (.bin .eql .sc (.t 10) (zi 0)))]) (.cond (.t 11) (y40g1 c) .skip)) (y40g2 c))
def y40g4 (c:Nat→FuncId):LCode:=(.seq (.sq [(zv 7 0),(zs 8 (.loadA 2 (.t 3))),(zs 9 (.call (.f (c 0)) [(.t 7),(.t 8)])),(zs 6 (.mv true (.t 9)))]) (y40g3 c))
def Uz1u (c:Nat→FuncId):=PLift.up (zc (zc (@unfC _ _ (y40g1.eq_1 c)) (@unfC _ _ (y40g2.eq_1 c))) (zc (@unfC _ _ (y40g3.eq_1 c)) (@unfC _ _ (y40g4.eq_1 c))))
def Cz16 (c:Nat→FuncId):LFn:=⟨21,[.many 4 4,.t 5],(.seq (.sq [(zs 3 (.box false false (.t 1))),(zs 4 (.alloc false [(.s (.int .i64 0)),(.s (.int .u8 0)),(.s (.str [])),(.s (.bool false))])),(zs 5 (.mv true zF))]) (y40g4 c))⟩
def y40h1:LCode:=(.seq (.sq [(zs 10 (.build [(.s (.int .i64 0)),(.s (.int .u8 0)),(.s (.str [])),(.s (.bool false))] [])),(zn (.store 4 (.t 2) (.t 10))),(zs 3 (.mv true zF))]) .ret)
def y40h2:LCode:=(.seq (.tree (.rd (zv 11 0) 0 false (.rd (zs 12 (.nilc (.t 11))) 1 false (.rd (zs 13 (.shift 0 (.t 12))) 2 false (.rd (zs 14 (.load1 false (.t 13))) 3 false (.rd (zv 15 0) 4 false (.rd (zs 16 (.nilc (.t 15))) 5 false (.rd (zs 17 (.shift 0 (.t 16))) 6 false (.rd (zs 18 (.load1 false (.t 17))) 7 false (.rd (zs 19 (.len .sl (.t 18))) 8 false (.rd (zs 20 (.bin .sub .sc (.t 19) (zi 1))) 9 false (.rd (zs 21 (.ixa (.sl 4) (.t 14) (.t 20))) 10 false (.rd (zs 22 (.loadA 4 (.t 21))) 11 false (.mv (zn (.store 4 (.t 2) (.t 22))) [0,1,2,3,4,5,6,7,8,9,10,11] (.mv (zs 3 (.mv true zT)) [0,1,2,3,4,5,6,7,8,9,10,11,12] .done .stop) .stop)))))))))))))) .ret)
def y40h3:LCode:=(.seq (.seq (.sq [(zv 4 0),(zs 5 (.nilc (.t 4))),(zs 6 (.shift 0 (.t 5))),(zs 7 (.load1 false (.t 6))),(zs 8 (.len .sl (.t 7))),(zs 9 (.bin .eql .sc (.t 8) (zi 0)))]) (.cond (.t 9) y40h1 .skip)) y40h2)
def Uz1v:=PLift.up (zc (@unfC _ _ (y40h1.eq_1)) (zc (@unfC _ _ (y40h2.eq_1)) (@unfC _ _ (y40h3.eq_1))))
def Cz12:LFn:=⟨23,[.many 2 4,.t 3],(.seq (.sq [(zs 2 (.alloc false [(.s (.int .i64 0)),(.s (.int .u8 0)),(.s (.str [])),(.s (.bool false))])),(zs 3 (.mv true zF))]) y40h3)⟩
def y40i1:LCode:=(.seq (.sq [(zv 3 0),(zs 4 (.nilc (.t 3))),(zs 5 (.shift 0 (.t 4))),(zs 6 (.load1 false (.t 5))),(zs 7 (.len .sl (.t 6))),(zs 2 (.mv true (.t 7)))]) .ret)
def Uz38:=PLift.up (@unfC _ _ (y40i1.eq_1))
def Cz1o:LFn:=⟨8,[.t 2],(.seq (.sq [(zs 2 (.mv true (zi 0)))]) y40i1)⟩
def y40j1:LCode:=(.seq (.sq [(zs 5 (.bsl ⟨4,true,40,(.agg [(.s (.int .i64 0)),(.s (.int .u8 0)),(.s (.str [])),(.s (.bool false))])⟩ 0 [])),(zv 6 0),(zs 7 (.app ⟨4,true,40,(.agg [(.s (.int .i64 0)),(.s (.int .u8 0)),(.s (.str [])),(.s (.bool false))])⟩ false (.t 5) (.t 6))),(zs 2 (.mv true (.t 7)))]) .ret)
def y40j2:LCode:=(.seq (.seq (.sq [(zv 3 0),(zs 4 (.bin .eql (.ref 1) (.t 3) (.c .nilS)))]) (.cond (.t 4) (.seq (.sq [(zs 2 (.mv true (.c .nilS)))]) .ret) .skip)) y40j1)
def Uzw:=PLift.up (zc (@unfC _ _ (y40j1.eq_1)) (@unfC _ _ (y40j2.eq_1)))
def Czx:LFn:=⟨8,[.t 2],(.seq (.sq [(zs 2 (.mv true (.c .nilS)))]) y40j2)⟩
def y40l1 (c:Nat→FuncId):LCode:=(.seq (.sq [(zv 36 0),(zs 37 (.nilc (.t 36))),(zs 38 (.shift 0 (.t 37))),(zs 39 (.load1 false (.t 38))),(zs 40 (.len .sl (.t 39))),(zs 41 (.bin .geq .sc (.t 40) (zi 50))),(zs 35 (.mv true (.t 41)))]) (.cond (.t 35) (.seq (.sq [(zs 4 (.mv true (zi 6)))]) .ret) .skip))
def y40l2 (c:Nat→FuncId):LCode:=(.seq (.tree (.rd (zv 42 0) 0 true (.rd (zv 43 0) 1 false (.rd (zs 44 (.nilc (.t 43))) 2 false (.rd (zs 45 (.shift 0 (.t 44))) 3 false (.rd (zv 47 5) 5 true (.rd (zs 48 (.loadA 4 (.t 3))) 6 true (.rd (zs 49 (.bsl ⟨4,true,40,(.agg [(.s (.int .i64 0)),(.s (.int .u8 0)),(.s (.str [])),(.s (.bool false))])⟩ 1 [(0,(.t 48))])) 7 true (.mv (zs 46 (.load1 true (.t 45))) [1,2,3] (.mv (zs 50 (.call (.f (c 2)) [(.t 46),(.t 47),(.t 49)])) [1,2,3,4,5,6,7] (.rd (zs 51 (.nilc (.t 42))) 9 false (.rd (zs 52 (.shift 0 (.t 51))) 10 false (.mv (zn (.stu (.t 52) (.t 50))) [0,1,2,3,4,5,6,7,8,9,10] .done .stop))) .stop) .stop))))))))) (.seq (.sq [(zs 4 (.mv true (zi 0)))]) .ret))
def y40l3 (c:Nat→FuncId):LCode:=(.seq (.block 0 (.seq (.sq [(zv 34 6),(zs 33 (.mv true (.t 34)))]) (.cond (.t 33) (.seq (.sq [(zs 4 (.mv true (zi 5)))]) .ret) (y40l1 c)))) (y40l2 c))
def y40l4 (c:Nat→FuncId):LCode:=(.seq (.sq [(zv 27 0),(zs 28 (.shift 0 (.t 3))),(zs 29 (.loadA 2 (.t 28))),(zs 30 (.call (.f (c 1)) [(.t 27),(.t 29)])),(zv 26 30),(zs 31 (.ext (.t 26) 0)),(zs 32 (.ext (.t 26) 1)),(zs 5 (.mv true (.t 31))),(zs 6 (.mv true (.t 32)))]) (y40l3 c))
def y40l5 (c:Nat→FuncId):LCode:=(.seq (.seq (.sq [(zs 7 (.shift 0 (.t 3))),(zs 8 (.loadA 2 (.t 7))),(zs 9 (.call (.f (c 0)) [(.t 8)])),(zs 10 (.un .not (.t 9))),(zv 11 10),(zf 12 11 (.shift 2 (.t 3))),(zf 13 11 (.load1 false (.t 12))),(zf 14 11 (.len .str (.t 13))),(zf 15 11 (.bin .gtr .sc (.t 14) (zi 200))),(zs 16 (.pick (.t 11) zT (.t 15))),(zv 17 16),(zf 18 17 (.shift 3 (.t 3))),(zf 19 17 (.load1 false (.t 18))),(zf 20 17 (.mv false (.t 19))),(zt 21 20 (.shift 2 (.t 3))),(zt 22 20 (.load1 false (.t 21))),(zt 23 20 (.bin .neq .sc (.t 22) (.c (.str [])))),(zf 24 17 (.pick (.t 20) (.t 23) zF)),(zs 25 (.pick (.t 17) zT (.t 24)))]) (.cond (.t 25) (.seq (.sq [(zs 4 (.mv true (zi 1)))]) .ret) .skip)) (y40l4 c))
def Uz9 (c:Nat→FuncId):=PLift.up (zc (zc (@unfC _ _ (y40l1.eq_1 c)) (@unfC _ _ (y40l2.eq_1 c))) (zc (@unfC _ _ (y40l3.eq_1 c)) (zc (@unfC _ _ (y40l4.eq_1 c)) (@unfC _ _ (y40l5.eq_1 c)))))
def Cz6 (c:Nat→FuncId):LFn:=⟨53,[.t 4],(.seq (.sq [(zs 3 (.box false false (.t 1))),(zs 4 (.mv true (zi 0)))]) (y40l5 c))⟩
def y40m1 (c:Nat→FuncId):LCode:=(.sq [(zv 23 5),(zs 24 (.bin .sub .sc (.t 23) (zi 1))),(zs 5 (.mv true (.t 24)))])
def y40m2 (c:Nat→FuncId):LCode:=(.seq (.sq [(zv 25 0),(zv 26 0),(zs 27 (.nilc (.t 26))),(zs 28 (.shift 0 (.t 27))),(zs 29 (.load1 false (.t 28))),(zv 30 5),(zs 31 (.slc (.sl 4) (.t 29) (some (.t 30)) none none)),(zs 32 (.call (.f (c 1)) [(.t 31)])),(zs 33 (.nilc (.t 25))),(zs 34 (.shift 0 (.t 33))),(zn (.stu (.t 34) (.t 32)))]) (.seq (.sq [(zv 35 5),(zs 4 (.mv true (.t 35)))]) .ret))
def y40m3 (c:Nat→FuncId):LCode:=(.seq (.seq (.sq [(zv 9 5),(zs 10 (.bin .gtr .sc (.t 9) (zi 0))),(zv 11 10),(zt 12 11 (.mv false (.t 0))),(zt 13 11 (.nilc (.t 12))),(zt 14 11 (.shift 0 (.t 13))),(zt 15 11 (.load1 false (.t 14))),(zt 16 11 (.mv false (.t 5))),(zt 17 11 (.bin .sub .sc (.t 16) (zi 1))),(zt 18 11 (.ixa (.sl 4) (.t 15) (.t 17))),(zt 19 11 (.shift 3 (.t 18))),(zt 20 11 (.load1 false (.t 19))),(zt 21 11 (.un .not (.t 20))),(zs 22 (.pick (.t 11) (.t 21) zF))]) (.cond (.t 22) (y40m1 c) .skip)) (y40m2 c))
def y40m4 (c:Nat→FuncId):LCode:=(.seq (.sq [(zv 6 0),(zs 7 (.loadA 2 (.t 3))),(zs 8 (.call (.f (c 0)) [(.t 6),(.t 7)])),(zs 5 (.mv true (.t 8)))]) (y40m3 c))
def Uzl (c:Nat→FuncId):=PLift.up (zc (zc (@unfC _ _ (y40m1.eq_1 c)) (@unfC _ _ (y40m2.eq_1 c))) (zc (@unfC _ _ (y40m3.eq_1 c)) (@unfC _ _ (y40m4.eq_1 c))))
def Czh (c:Nat→FuncId):LFn:=⟨36,[.t 4],(.seq (.sq [(zs 3 (.box false false (.t 1))),(zs 4 (.mv true (zi 0)))]) (y40m4 c))⟩
def y40n1:LCode:=(.seq (.sq [(zs 1 (.mkmap none)),(zs 2 (.build [(.s .nilM)] [(0,1,(.t 1))])),(zs 3 (.box false true (.t 2))),(zs 0 (.mv true (.t 3)))]) .ret)
def Uz5d:=PLift.up (@unfC _ _ (y40n1.eq_1))
def Cz2z:LFn:=⟨4,[.t 0],(.seq (.sq [(zs 0 (.mv true (.c .nilP)))]) y40n1)⟩
def y40o1 (c:Nat→FuncId):LCode:=(.seq (.seq (.sq [(zv 12 5),(zs 13 (.bin .eql (.ref 0) (.t 12) (.c .nilP)))]) (.cond (.t 13) (.seq (.sq [(zs 14 (.call (.f (c 0)) [])),(zs 4 (.mv true (.t 14)))]) .ret) .skip)) (.seq (.sq [(zv 15 5),(zs 4 (.mv true (.t 15)))]) .ret))
def y40o2 (c:Nat→FuncId):LCode:=(.seq (.tree (.rd (zv 6 0) 0 false (.rd (zs 7 (.nilc (.t 6))) 1 false (.rd (zs 8 (.shift 0 (.t 7))) 2 false (.rd (zs 9 (.load1 false (.t 8))) 3 false (.rd (zs 10 (.loadA 16 (.t 3))) 4 false (.rd (zs 11 (.look (.leaf lk) (.s .nilP) false (.t 9) (.t 10))) 5 false (.mv (zs 5 (.mv true (.t 11))) [0,1,2,3,4,5] .done .stop)))))))) (y40o1 c))
def Uz1w (c:Nat→FuncId):=PLift.up (zc (@unfC _ _ (y40o1.eq_1 c)) (@unfC _ _ (y40o2.eq_1 c)))
def Cz17 (c:Nat→FuncId):LFn:=⟨16,[.t 4],(.seq (.sq [(zs 3 (.box false false (.t 1))),(zs 4 (.mv true (.c .nilP)))]) (y40o2 c))⟩
def y40p1 (c:Nat→FuncId):LCode:=(.sq [(zv 27 5),(zs 28 (.bin .add .sc (.t 27) (zi 1))),(zs 5 (.mv true (.t 28)))])
def y40p2 (c:Nat→FuncId):LCode:=(.seq (.sq [(zv 29 0),(zs 30 (.shift 0 (.t 7))),(zs 31 (.loadA 16 (.t 30))),(zs 32 (.call (.f (c 0)) [(.t 29),(.t 31)])),(zs 33 (.call (.f (c 1)) [(.t 32)])),(zs 34 (.bin .geq .sc (.t 33) (zi 50)))]) (.cond (.t 34) (.seq (.sq [(zs 4 (.mv true zF))]) .ret) .skip))
def y40p3 (c:Nat→FuncId):LCode:=(.seq (.seq (.tree (.rd (zv 19 0) 0 false (.rd (zs 20 (.nilc (.t 19))) 1 false (.rd (zs 21 (.shift 0 (.t 20))) 2 false (.rd (zs 22 (.load1 false (.t 21))) 3 false (.rd (zs 23 (.shift 0 (.t 7))) 4 false (.rd (zs 24 (.loadA 16 (.t 23))) 5 false (.rd (zs 25 (.look (.leaf lk) (.s .nilP) false (.t 22) (.t 24))) 6 false (.rd (zs 26 (.bin .eql (.ref 0) (.t 25) (.c .nilP))) 7 false .done))))))))) (.cond (.t 26) (y40p1 c) .skip)) (y40p2 c))
def y40p4 (c:Nat→FuncId):LCode:=(.seq (.block 1 (.seq (.sq [(zs 17 (.ixa (.sl 18) (.t 13) (.t 15))),(zs 18 (.loadA 18 (.t 17))),(zs 7 (.alloc false (zk ++ [(.s (.str [])),(.s (.bool false))]))),(zn (.store 18 (.t 7) (.t 18)))]) (y40p3 c))) (.sq [(zs 35 (.bin .add .sc (.t 15) (zi 1))),(zv 15 35)]))
def y40p5 (c:Nat→FuncId):LCode:=(.seq (.sq [(zs 16 (.bin .lss .sc (.t 15) (.t 14)))]) (.seq (.cond (.t 16) .skip (.exit 0)) (y40p4 c)))
def y40p6 (c:Nat→FuncId):LCode:=(.block 0 (.loop (zm false [0,1,4,1,7,3,22]) (y40p5 c)))
def y40p7 (c:Nat→FuncId):LCode:=(.seq (.sq [(zv 36 5),(zs 37 (.bin .leq .sc (.t 36) (zi 200))),(zs 4 (.mv true (.t 37)))]) .ret)
def y40p8 (c:Nat→FuncId):LCode:=(.seq (.seq (.sq [(zv 13 1),(zs 14 (.len .sl (.t 13))),(zs 15 (.mv false (zi 0)))]) (y40p6 c)) (y40p7 c))
def y40p9 (c:Nat→FuncId):LCode:=(.seq (.sq [(zv 8 0),(zs 9 (.nilc (.t 8))),(zs 10 (.shift 0 (.t 9))),(zs 11 (.load1 false (.t 10))),(zs 12 (.len .map (.t 11))),(zs 5 (.mv true (.t 12)))]) (y40p8 c))
def Uzi (c:Nat→FuncId):=PLift.up (zc (zc (zc (@unfC _ _ (y40p1.eq_1 c)) (@unfC _ _ (y40p2.eq_1 c))) (zc (@unfC _ _ (y40p3.eq_1 c)) (@unfC _ _ (y40p4.eq_1 c)))) (zc (zc (@unfC _ _ (y40p5.eq_1 c)) (@unfC _ _ (y40p6.eq_1 c))) (zc (@unfC _ _ (y40p7.eq_1 c)) (zc (@unfC _ _ (y40p8.eq_1 c)) (@unfC _ _ (y40p9.eq_1 c))))))
def Cz1j (c:Nat→FuncId):LFn:=⟨38,[.t 4],(.seq (.sq [(zs 4 (.mv true zF))]) (y40p9 c))⟩
def y40q1 (c:Nat→FuncId):LCode:=(.seq (.tree (.rd (zv 31 0) 0 false (.rd (zs 32 (.shift 0 (.t 8))) 1 false (.rd (zs 33 (.loadA 16 (.t 32))) 2 false (.rd (zs 35 (.loadA 2 (.t 4))) 4 true (.mv (zs 34 (.call (.f (c 3)) [(.t 31),(.t 33)])) [0,1,2] (.mv (zs 36 (.call (.f (c 4)) [(.t 34),(.t 35)])) [0,1,2,3,4] .done .stop) .stop)))))) (.cond (.t 36) (.seq (.sq [(zs 6 (.mv true (zi 5)))]) .ret) .skip))
def y40q2 (c:Nat→FuncId):LCode:=(.seq (.block 1 (.seq (.sq [(zs 29 (.ixa (.sl 18) (.t 25) (.t 27))),(zs 30 (.loadA 18 (.t 29))),(zs 8 (.alloc false (zk ++ [(.s (.str [])),(.s (.bool false))]))),(zn (.store 18 (.t 8) (.t 30)))]) (y40q1 c))) (.sq [(zs 37 (.bin .add .sc (.t 27) (zi 1))),(zv 27 37)]))
def y40q3 (c:Nat→FuncId):LCode:=(.seq (.sq [(zs 28 (.bin .lss .sc (.t 27) (.t 26)))]) (.seq (.cond (.t 28) .skip (.exit 0)) (y40q2 c)))
def y40q4 (c:Nat→FuncId):LCode:=(.block 0 (.loop (zm false [0,1,1,1,1,1,20,3,40]) (y40q3 c)))
def y40q5 (c:Nat→FuncId):LCode:=(.tree (.rd (zv 60 0) 0 false (.rd (zs 61 (.nilc (.t 60))) 1 false (.rd (zs 62 (.shift 0 (.t 61))) 2 false (.rd (zs 63 (.load1 false (.t 62))) 3 false (.rd (zs 64 (.shift 0 (.t 10))) 4 false (.rd (zs 65 (.loadA 16 (.t 64))) 5 false (.rd (zv 66 11) 6 false (.mv (zn (.upd (.leaf lk) (.t 63) (.t 65) (.t 66))) [0,1,2,3,4,5,6] .done .stop)))))))))
def y40q6 (c:Nat→FuncId):LCode:=(.seq (.sq [(zv 52 11),(zs 53 (.loadA 2 (.t 4))),(zs 54 (.shift 16 (.t 10))),(zs 55 (.load1 false (.t 54))),(zs 56 (.shift 17 (.t 10))),(zs 57 (.load1 false (.t 56))),(zs 58 (.build [(.s (.int .i64 0)),(.s (.int .u8 0)),(.s (.str [])),(.s (.bool false))] [(0,2,(.t 53)),(2,1,(.t 55)),(3,1,(.t 57))])),(zs 59 (.call (.f (c 6)) [(.t 52),(.t 58)]))]) (y40q5 c))
def y40q7 (c:Nat→FuncId):LCode:=(.seq (.sq [(zv 48 0),(zs 49 (.shift 0 (.t 10))),(zs 50 (.loadA 16 (.t 49))),(zs 51 (.call (.f (c 3)) [(.t 48),(.t 50)])),(zs 11 (.mv true (.t 51)))]) (y40q6 c))
def y40q8 (c:Nat→FuncId):LCode:=(.seq (.block 3 (.seq (.sq [(zs 46 (.ixa (.sl 18) (.t 42) (.t 44))),(zs 47 (.loadA 18 (.t 46))),(zs 10 (.alloc false (zk ++ [(.s (.str [])),(.s (.bool false))]))),(zn (.store 18 (.t 10) (.t 47)))]) (y40q7 c))) (.sq [(zs 67 (.bin .add .sc (.t 44) (zi 1))),(zv 44 67)]))
def y40q9 (c:Nat→FuncId):LCode:=(.seq (.sq [(zs 45 (.bin .lss .sc (.t 44) (.t 43)))]) (.seq (.cond (.t 45) .skip (.exit 2)) (y40q8 c)))
def y40q10 (c:Nat→FuncId):LCode:=(.block 2 (.loop (zm false [0,1,3,1,37,3,23]) (y40q9 c)))
def y40q11 (c:Nat→FuncId):LCode:=(.seq (.seq (.sq [(zv 42 2),(zs 43 (.len .sl (.t 42))),(zs 44 (.mv false (zi 0)))]) (y40q10 c)) (.seq (.sq [(zs 6 (.mv true (zi 0)))]) .ret))
def y40q12 (c:Nat→FuncId):LCode:=(.seq (.seq (.sq [(zv 38 0),(zv 39 2),(zs 40 (.call (.f (c 5)) [(.t 38),(.t 39)])),(zs 41 (.un .not (.t 40)))]) (.cond (.t 41) (.seq (.sq [(zs 6 (.mv true (zi 6)))]) .ret) .skip)) (y40q11 c))
def y40q13 (c:Nat→FuncId):LCode:=(.seq (.seq (.sq [(zv 25 2),(zs 26 (.len .sl (.t 25))),(zs 27 (.mv false (zi 0)))]) (y40q4 c)) (y40q12 c))
def y40q14 (c:Nat→FuncId):LCode:=(.seq (.seq (.sq [(zs 12 (.loadA 2 (.t 4))),(zs 13 (.call (.f (c 0)) [(.t 12)])),(zs 14 (.un .not (.t 13))),(zv 15 14),(zf 16 15 (.mv false (.t 2))),(zf 17 15 (.call (.f (c 1)) [(.t 16)])),(zf 18 15 (.un .not (.t 17))),(zs 19 (.pick (.t 15) zT (.t 18))),(zv 20 19),(zf 21 20 (.mv false (.t 2))),(zf 22 20 (.call (.f (c 2)) [(.t 21)])),(zf 23 20 (.un .not (.t 22))),(zs 24 (.pick (.t 20) zT (.t 23)))]) (.cond (.t 24) (.seq (.sq [(zs 6 (.mv true (zi 1)))]) .ret) .skip)) (y40q13 c))
def Uz2 (c:Nat→FuncId):=PLift.up (zc (zc (zc (@unfC _ _ (y40q1.eq_1 c)) (zc (@unfC _ _ (y40q2.eq_1 c)) (@unfC _ _ (y40q3.eq_1 c)))) (zc (zc (@unfC _ _ (y40q4.eq_1 c)) (@unfC _ _ (y40q5.eq_1 c))) (zc (@unfC _ _ (y40q6.eq_1 c)) (@unfC _ _ (y40q7.eq_1 c))))) (zc (zc (@unfC _ _ (y40q8.eq_1 c)) (zc (@unfC _ _ (y40q9.eq_1 c)) (@unfC _ _ (y40q10.eq_1 c)))) (zc (zc (@unfC _ _ (y40q11.eq_1 c)) (@unfC _ _ (y40q12.eq_1 c))) (zc (@unfC _ _ (y40q13.eq_1 c)) (@unfC _ _ (y40q14.eq_1 c))))))
def Cze (c:Nat→FuncId):LFn:=⟨68,[.t 6],(.seq (.sq [(zs 4 (.box false false (.t 1))),(zs 6 (.mv true (zi 0)))]) (y40q14 c))⟩
def y40r1 (c:Nat→FuncId):LCode:=(.cond (.t 23) (.seq (.sq [(zs 6 (.mv true (.c (.str [])))),(zs 7 (.mv true zF))]) .ret) .skip)
def y40r2 (c:Nat→FuncId):LCode:=(.seq (.sq [(zs 24 (.shift 2 (.t 8))),(zs 25 (.load1 false (.t 24))),(zs 6 (.mv true (.t 25))),(zs 7 (.mv true zT))]) .ret)
def y40r3 (c:Nat→FuncId):LCode:=(.seq (.seq (.sq [(zv 18 9),(zs 19 (.un .not (.t 18))),(zv 20 19),(zf 21 20 (.shift 3 (.t 8))),(zf 22 20 (.load1 false (.t 21))),(zs 23 (.pick (.t 20) zT (.t 22)))]) (y40r1 c)) (y40r2 c))
def y40r4 (c:Nat→FuncId):LCode:=(.seq (.tree (.rd (zv 11 0) 0 true (.rd (zs 12 (.loadA 16 (.t 4))) 1 true (.rd (zs 14 (.loadA 2 (.t 5))) 3 true (.mv (zs 13 (.call (.f (c 0)) [(.t 11),(.t 12)])) [0,1] (.mv (zs 15 (.call (.f (c 1)) [(.t 13),(.t 14)])) [0,1,2,3] (.rd (zv 10 15) 5 true (.rd (zs 16 (.ext (.t 10) 0)) 6 true (.rd (zs 17 (.ext (.t 10) 1)) 7 true (.mv (zs 8 (.alloc false [(.s (.int .i64 0)),(.s (.int .u8 0)),(.s (.str [])),(.s (.bool false))])) [] (.mv (zn (.store 4 (.t 8) (.t 16))) [0,1,2,3,4,5,6,8] (.mv (zs 9 (.mv true (.t 17))) [0,1,2,3,4,5,6,7,8,9] .done .stop) .stop) .stop)))) (.mv (zs 8 (.alloc false [(.s (.int .i64 0)),(.s (.int .u8 0)),(.s (.str [])),(.s (.bool false))])) [] (.mv (zs 15 (.call (.f (c 1)) [(.t 13),(.t 14)])) [0,1,2,3] (.rd (zv 10 15) 5 false (.rd (zs 16 (.ext (.t 10) 0)) 6 false (.rd (zs 17 (.ext (.t 10) 1)) 7 true (.mv (zn (.store 4 (.t 8) (.t 16))) [0,1,2,3,4,5,6,8] (.mv (zs 9 (.mv true (.t 17))) [0,1,2,3,4,5,6,7,8,9] .done .stop) .stop)))) .stop) .stop)) (.mv (zs 8 (.alloc false [(.s (.int .i64 0)),(.s (.int .u8 0)),(.s (.str [])),(.s (.bool false))])) [] (.mv (zs 13 (.call (.f (c 0)) [(.t 11),(.t 12)])) [0,1] (.mv (zs 15 (.call (.f (c 1)) [(.t 13),(.t 14)])) [0,1,2,3] (.rd (zv 10 15) 5 false (.rd (zs 16 (.ext (.t 10) 0)) 6 false (.rd (zs 17 (.ext (.t 10) 1)) 7 true (.mv (zn (.store 4 (.t 8) (.t 16))) [0,1,2,3,4,5,6,8] (.mv (zs 9 (.mv true (.t 17))) [0,1,2,3,4,5,6,7,8,9] .done .stop) .stop)))) .stop) .stop) .stop)))))) (y40r3 c))
def Uzd (c:Nat→FuncId):=PLift.up (zc (zc (@unfC _ _ (y40r1.eq_1 c)) (@unfC _ _ (y40r2.eq_1 c))) (zc (@unfC _ _ (y40r3.eq_1 c)) (@unfC _ _ (y40r4.eq_1 c))))
def Cza (c:Nat→FuncId):LFn:=⟨26,[.t 6,.t 7],(.seq (.sq [(zs 4 (.box false false (.t 1))),(zs 5 (.box false false (.t 2))),(zs 6 (.mv true (.c (.str [])))),(zs 7 (.mv true zF))]) (y40r4 c))⟩
def y40s1 (c:Nat→FuncId):LCode:=(.seq (.sq [(zs 15 (.shift 0 (.t 6))),(zs 16 (.loadA 2 (.t 15))),(zv 17 7),(zn (.store 2 (.t 4) (.t 16))),(zs 5 (.mv true (.t 17)))]) .ret)
def y40s2 (c:Nat→FuncId):LCode:=(.seq (.sq [(zv 9 0),(zs 10 (.loadA 16 (.t 3))),(zs 11 (.call (.f (c 0)) [(.t 9),(.t 10)])),(zs 12 (.call (.f (c 1)) [(.t 11)])),(zv 8 12),(zs 13 (.ext (.t 8) 0)),(zs 14 (.ext (.t 8) 1)),(zs 6 (.alloc false [(.s (.int .i64 0)),(.s (.int .u8 0)),(.s (.str [])),(.s (.bool false))])),(zn (.store 4 (.t 6) (.t 13))),(zs 7 (.mv true (.t 14)))]) (y40s1 c))
def Uz13 (c:Nat→FuncId):=PLift.up (zc (@unfC _ _ (y40s1.eq_1 c)) (@unfC _ _ (y40s2.eq_1 c)))
def Czn (c:Nat→FuncId):LFn:=⟨18,[.many 4 2,.t 5],(.seq (.sq [(zs 3 (.box false false (.t 1))),(zs 4 (.alloc false [(.s (.int .i64 0)),(.s (.int .u8 0))])),(zs 5 (.mv true zF))]) (y40s2 c))⟩
def y40u1:LCode:=(.seq (.sq [(zv 10 0),(zs 11 (.loadA 16 (.t 3))),(zs 12 (.call (.t 10) [(.t 11)])),(zs 13 (.un .not (.t 12)))]) (.cond (.t 13) .ret .skip))
def y40u2:LCode:=(.block 1 (.seq (.sq [(zs 8 (.ent (.t 5))),(zs 9 (.ext (.t 8) 0)),(zs 3 (.alloc false zk)),(zn (.store 16 (.t 3) (.t 9)))]) y40u1))
def y40u3:LCode:=(.seq (.sq [(zs 6 (.nxt (.t 5))),(zs 7 (.ext (.t 6) 0))]) (.seq (.cond (.t 7) .skip (.exit 0)) y40u2))
def y40u4:LCode:=(.block 0 (.loop (zm false [0,1,4,1,8]) y40u3))
def Uzk:=PLift.up (zc (zc (@unfC _ _ (y40u1.eq_1)) (@unfC _ _ (y40u2.eq_1))) (zc (@unfC _ _ (y40u3.eq_1)) (@unfC _ _ (y40u4.eq_1))))
def Czf:LFn:=⟨14,[],(.seq (.sq [(zs 4 (.load1 false (.t 1))),(zs 5 (.rng (.t 4)))]) y40u4)⟩
def Cz1p (c:Nat→FuncId):LFn:=⟨4,[.t 2],(.seq (.sq [(zs 1 (.box false true (.t 0))),(zs 2 (.mv true (.c .nilF)))]) (.seq (.sq [(zs 3 (.mkfn (c 0) [] [(.t 1)])),(zs 2 (.mv true (.t 3)))]) .ret))⟩
def y40v1 (c:Nat→FuncId) (as1 bd1:Code):LCode:=(.seq (.seq (.sq [(zv 6 1)]) (.block 0 (.rfun (.t 6) (c 0) #[7] as1 bd1))) (.seq (.sq [(zs 12 (.load1 true (.t 2))),(zs 4 (.mv true (.t 12)))]) .ret))
def Uz18 (c:Nat→FuncId) (as1 bd1:Code):=PLift.up (@unfC _ _ (y40v1.eq_1 c as1 bd1))
def Czy (c:Nat→FuncId) (as1 bd1:Code):LFn:=⟨13,[.t 4],(.seq (.sq [(zs 2 (.box true true (.t 0))),(zs 4 (.mv true (.c .nilS)))]) (y40v1 c as1 bd1))⟩
def Czo:LFn:=⟨0,[],(.sq [(zs 5 (.alloc false zk)),(zn (.store 16 (.t 5) (.t 7)))])⟩
def Czp:LFn:=⟨0,[],(.block 1 (.sq [(zs 8 (.load1 true (.t 2))),(zs 9 (.loadA 16 (.t 5))),(zs 10 (.bsl ⟨16,true,16,(.agg zk)⟩ 1 [(0,(.t 9))])),(zs 11 (.app ⟨16,true,16,(.agg zk)⟩ false (.t 8) (.t 10))),(zn (.stu (.t 2) (.t 11)))]))⟩
def y40w1 (c:Nat→FuncId):LCode:=(.seq (.sq [(zv 3 0),(zs 4 (.call (.f (c 0)) [(.c .nilS),(.t 3)])),(zs 2 (.mv true (.t 4)))]) .ret)
def Uz1x (c:Nat→FuncId):=PLift.up (@unfC _ _ (y40w1.eq_1 c))
def Cz14 (c:Nat→FuncId):LFn:=⟨5,[.t 2],(.seq (.sq [(zs 2 (.mv true (.c .nilS)))]) (y40w1 c))⟩
def y40x1 (c:Nat→FuncId):LCode:=(.seq (.sq [(zs 8 (.thaw 5)),(zv 9 1),(zs 10 (.call (.f (c 1)) [(.t 8),(.t 9)]))]) (.seq (.sq [(zs 11 (.frz ⟨16,true,16,(.agg zk)⟩ (.t 5))),(zs 4 (.mv true (.t 11)))]) .ret))
def y40x2 (c:Nat→FuncId):LCode:=(.seq (.sq [(zv 6 0),(zs 7 (.call (.f (c 0)) [(.t 6)])),(zs 5 (.mv true (.t 7)))]) (y40x1 c))
def Uzg (c:Nat→FuncId):=PLift.up (zc (@unfC _ _ (y40x1.eq_1 c)) (@unfC _ _ (y40x2.eq_1 c)))
def Czb (c:Nat→FuncId):LFn:=⟨12,[.t 4],(.seq (.sq [(zs 4 (.mv true (.c .nilS)))]) (y40x2 c))⟩
def y40y1 (c:Nat→FuncId):LCode:=(.seq (.sq [(zv 3 0),(zs 4 (.nilc (.t 3))),(zs 5 (.shift 0 (.t 4))),(zs 6 (.load1 false (.t 5))),(zs 7 (.call (.f (c 0)) [(.t 6)])),(zs 8 (.call (.f (c 1)) [(.t 7),(.f (c 2))])),(zs 2 (.mv true (.t 8)))]) .ret)
def Uz1k (c:Nat→FuncId):=PLift.up (@unfC _ _ (y40y1.eq_1 c))
def Cz10 (c:Nat→FuncId):LFn:=⟨9,[.t 2],(.seq (.sq [(zs 2 (.mv true (.c .nilS)))]) (y40y1 c))⟩
def y40z1 (c:Nat→FuncId):LCode:=(.seq (.sq [(zs 7 (.loadA 16 (.t 3))),(zs 8 (.loadA 16 (.t 4))),(zs 9 (.call (.f (c 0)) [(.t 7),(.t 8)])),(zs 10 (.bin .geq .sc (.t 9) (zi 0))),(zv 11 10),(zt 12 11 (.loadA 16 (.t 5))),(zt 13 11 (.build zk [])),(zt 14 11 (.bin .eql (.leaf lk) (.t 12) (.t 13))),(zt 15 11 (.mv false (.t 14))),(zf 16 15 (.loadA 16 (.t 3))),(zf 17 15 (.loadA 16 (.t 5))),(zf 18 15 (.call (.f (c 0)) [(.t 16),(.t 17)])),(zf 19 15 (.bin .lss .sc (.t 18) (zi 0))),(zt 20 11 (.pick (.t 15) zT (.t 19))),(zs 21 (.pick (.t 11) (.t 20) zF)),(zs 6 (.mv true (.t 21)))]) .ret)
def Uz1t (c:Nat→FuncId):=PLift.up (@unfC _ _ (y40z1.eq_1 c))
def Cz19 (c:Nat→FuncId):LFn:=⟨22,[.t 6],(.seq (.sq [(zs 3 (.box false false (.t 0))),(zs 4 (.box false false (.t 1))),(zs 5 (.box false false (.t 2))),(zs 6 (.mv true zF))]) (y40z1 c))⟩
def y40aa1 (c:Nat→FuncId):LCode:=(.sq [(zs 40 (.mv true (.t 11))),(zs 41 (.loadA 16 (.t 13))),(zv 42 14),(zs 43 (.build (zk ++ [(.s (.str []))]) [(0,16,(.t 41)),(16,1,(.t 42))])),(zs 44 (.bsl ⟨17,true,32,(.agg (zk ++ [(.s (.str []))]))⟩ 1 [(0,(.t 43))])),(zs 45 (.app ⟨17,true,32,(.agg (zk ++ [(.s (.str []))]))⟩ false (.t 40) (.t 44))),(zs 11 (.mv true (.t 45)))])
def y40aa2 (c:Nat→FuncId):LCode:=(.seq (.sq [(zv 33 0),(zs 34 (.loadA 16 (.t 13))),(zs 35 (.loadA 2 (.t 8))),(zs 36 (.call (.f (c 2)) [(.t 33),(.t 34),(.t 35)])),(zv 32 36),(zs 37 (.ext (.t 32) 0)),(zs 38 (.ext (.t 32) 1)),(zs 14 (.mv true (.t 37))),(zs 15 (.mv true (.t 38)))]) (.seq (.sq [(zv 39 15)]) (.cond (.t 39) (y40aa1 c) .skip)))
def y40aa3 (c:Nat→FuncId):LCode:=(.seq (.seq (.sq [(zs 27 (.loadA 16 (.t 13))),(zs 28 (.loadA 16 (.t 6))),(zs 29 (.loadA 16 (.t 7))),(zs 30 (.call (.f (c 1)) [(.t 27),(.t 28),(.t 29)])),(zs 31 (.un .not (.t 30)))]) (.cond (.t 31) (.exit 1) .skip)) (y40aa2 c))
def y40aa4 (c:Nat→FuncId):LCode:=(.seq (.seq (.sq [(zv 23 11),(zs 24 (.len .sl (.t 23))),(zv 25 4),(zs 26 (.bin .geq .sc (.t 24) (.t 25)))]) (.cond (.t 26) (.exit 0) .skip)) (y40aa3 c))
def y40aa5 (c:Nat→FuncId):LCode:=(.seq (.block 1 (.seq (.sq [(zs 21 (.ixa (.sl 16) (.t 17) (.t 19))),(zs 22 (.loadA 16 (.t 21))),(zs 13 (.alloc false zk)),(zn (.store 16 (.t 13) (.t 22)))]) (y40aa4 c))) (.sq [(zs 46 (.bin .add .sc (.t 19) (zi 1))),(zv 19 46)]))
def y40aa6 (c:Nat→FuncId):LCode:=(.seq (.sq [(zs 20 (.bin .lss .sc (.t 19) (.t 18)))]) (.seq (.cond (.t 20) .skip (.exit 0)) (y40aa5 c)))
def y40aa7 (c:Nat→FuncId):LCode:=(.block 0 (.loop (zm false [0,1,3,1,1,3,2,1,5,3,28]) (y40aa6 c)))
def y40aa8 (c:Nat→FuncId):LCode:=(.seq (.seq (.sq [(zv 16 0),(zs 17 (.call (.f (c 0)) [(.t 16)])),(zs 18 (.len .sl (.t 17))),(zs 19 (.mv false (zi 0)))]) (y40aa7 c)) (.seq (.sq [(zs 47 (.mv true (.t 11))),(zs 10 (.mv true (.t 47)))]) .ret))
def Uz5 (c:Nat→FuncId):=PLift.up (zc (zc (zc (@unfC _ _ (y40aa1.eq_1 c)) (@unfC _ _ (y40aa2.eq_1 c))) (zc (@unfC _ _ (y40aa3.eq_1 c)) (@unfC _ _ (y40aa4.eq_1 c)))) (zc (zc (@unfC _ _ (y40aa5.eq_1 c)) (@unfC _ _ (y40aa6.eq_1 c))) (zc (@unfC _ _ (y40aa7.eq_1 c)) (@unfC _ _ (y40aa8.eq_1 c)))))
def Cz1a (c:Nat→FuncId):LFn:=⟨48,[.t 10],(.seq (.sq [(zs 6 (.box false false (.t 1))),(zs 7 (.box false false (.t 2))),(zs 8 (.box false false (.t 3))),(zs 10 (.mv true (.c .nilS)))]) (.seq (.sq [(zs 11 (.mv true (.c .nilS)))]) (y40aa8 c)))⟩
def y40ab1 (c:Nat→FuncId):LCode:=(.tree (.rd (zv 26 0) 0 false (.rd (zs 27 (.nilc (.t 26))) 1 false (.rd (zs 28 (.shift 0 (.t 27))) 2 false (.rd (zs 29 (.load1 false (.t 28))) 3 false (.rd (zs 30 (.loadA 16 (.t 6))) 4 false (.mv (zn (.del (.leaf lk) (.t 29) (.t 30))) [0,1,2,3,4] .done .stop)))))))
def y40ab2 (c:Nat→FuncId):LCode:=(.seq (.sq [(zv 23 7),(zs 24 (.call (.f (c 1)) [(.t 23)])),(zs 25 (.bin .eql .sc (.t 24) (zi 0)))]) (.cond (.t 25) (y40ab1 c) .skip))
def y40ab3 (c:Nat→FuncId):LCode:=(.seq (.sq [(zv 18 5),(zv 19 7),(zs 20 (.loadA 2 (.t 3))),(zs 21 (.call (.f (c 0)) [(.t 19),(.t 20)])),(zs 22 (.bin .add .sc (.t 18) (.t 21))),(zs 5 (.mv true (.t 22)))]) (y40ab2 c))
def y40ab4 (c:Nat→FuncId):LCode:=(.block 1 (.seq (.sq [(zs 15 (.ent (.t 12))),(zs 16 (.ext (.t 15) 0)),(zs 17 (.ext (.t 15) 1)),(zs 6 (.alloc false zk)),(zn (.store 16 (.t 6) (.t 16))),(zs 7 (.mv true (.t 17)))]) (y40ab3 c)))
def y40ab5 (c:Nat→FuncId):LCode:=(.seq (.sq [(zs 13 (.nxt (.t 12))),(zs 14 (.ext (.t 13) 0))]) (.seq (.cond (.t 14) .skip (.exit 0)) (y40ab4 c)))
def y40ab6 (c:Nat→FuncId):LCode:=(.block 0 (.loop (zm false [0,1,2,1,1,1,6,1,19]) (y40ab5 c)))
def y40ab7 (c:Nat→FuncId):LCode:=(.seq (.seq (.sq [(zv 8 0),(zs 9 (.nilc (.t 8))),(zs 10 (.shift 0 (.t 9))),(zs 11 (.load1 false (.t 10))),(zs 12 (.rng (.t 11)))]) (y40ab6 c)) (.seq (.sq [(zv 31 5),(zs 4 (.mv true (.t 31)))]) .ret))
def Uzj (c:Nat→FuncId):=PLift.up (zc (zc (@unfC _ _ (y40ab1.eq_1 c)) (zc (@unfC _ _ (y40ab2.eq_1 c)) (@unfC _ _ (y40ab3.eq_1 c)))) (zc (zc (@unfC _ _ (y40ab4.eq_1 c)) (@unfC _ _ (y40ab5.eq_1 c))) (zc (@unfC _ _ (y40ab6.eq_1 c)) (@unfC _ _ (y40ab7.eq_1 c)))))
def Czc (c:Nat→FuncId):LFn:=⟨32,[.t 4],(.seq (.sq [(zs 3 (.box false false (.t 1))),(zs 4 (.mv true (zi 0)))]) (.seq (.sq [(zs 5 (.mv true (zi 0)))]) (y40ab7 c)))⟩
end Go.AM
namespace Go.AM
open Go
open AV renaming undef → uu
set_option maxRecDepth 20000
def CmpVS (C:CallW) (g:FuncId):Prop:=∀(v:Ver) (s:Stp) S H (K:AV→St→Prop),K (.s (.int .i64 (cmpS v.st s))) ⟨S,H⟩→C (.fn g) [.agg (verc v),.agg (stc s)] ⟨S,H⟩ K
theorem ixl_v {l:List Ver} {i:Nat} {k:IntKind} (h:i < l.length):indexAddrL (.sl 4) (.list .sh 4 (l.map verA)) (.s (.int k (i:Int)))=some (.rop (verc l[i])):=ixl_map h (by omega)
theorem place1_spec {C:CallW} (P:Program) {c:Nat→FuncId} (h0:CmpSS C (c 0)):∀(v:Ver) (s:Stp) S H (K:AV→St→Prop),K (.s (.int .i64 (cmpS v.st s))) ⟨S,H⟩→runL C P (Czz c) [.agg (verc v),.agg (stc s)] ⟨S,H⟩ K:=by
  intro v s S H K hK
  simp only [verc,stc,Czz,A_,simprocAttr,ne_eq,(Uz1s _).1]
  refine h0 _ _ _ _ _ ?_
  simp only [verc,stc,Czz,A_,simprocAttr,ne_eq,(Uz1s _).1]
  exact hK
def BsS (C:CallW) (f:FuncId):Prop:=∀(vs:List Ver) (s:Stp) (g:FuncId) S H (K:AV→St→Prop),SorV vs→vs.length≤1000→CmpVS C g→K (.tup [.s (.int .i64 (idxV vs s:Nat)),.s (.bool (hasV vs s))]) ⟨S,H⟩→C (.fn f) [lstV vs,.agg (stc s),.fn (.func g) [] []] ⟨S,H⟩ K
theorem half_fdiv {n:Nat}:(n:Int).fdiv (2 ^ min 1 IntKind.u64.bits)=((n / 2:Nat):Int):=by
  have h:(n:Int).fdiv 2=((n / 2:Nat):Int):=by rw [Int.fdiv_eq_ediv_of_nonneg _ (by omega)]; omega
  exact h
theorem rdv {v:Ver} {σ:St}:readA σ (.rop (verc v)) 4=some (.agg (verc v)):=rfl
theorem wu64' {n:Nat} (h:n < 18446744073709551616):IntKind.u64.wrap (n:Int)=(n:Int):=by simp [IntKind.wrap,IntKind.bits,IntKind.signed]; omega
set_option maxHeartbeats 8000000 in
theorem bs_spec {C:CallW} (hC:LeC C C) (P:Program):∀(vs:List Ver) (s:Stp) (g:FuncId) S H (K:AV→St→Prop),SorV vs→vs.length≤1000→CmpVS C g→K (.tup [.s (.int .i64 (idxV vs s:Nat)),.s (.bool (hasV vs s))]) ⟨S,H⟩→runL C P Cz3 [lstV vs,.agg (stc s),.fn (.func g) [] []] ⟨S,H⟩ K:=by
  intro vs s g S H K hs hl hg hK
  have hile:=idx_le vs s
  simp only [lstV,stc,Cz3,A_,simprocAttr,ne_eq,Uz8.1,List.length_map]
  refine loop_rule hC (α:=Nat×Nat) (fun x=>x.2 - x.1) (fun x=>[.list .sh 4 (vs.map verA),.undef,.fn (.func g) [] [],.undef,.ptr (.stk S.length) 0,uu,uu,uu,.s (.int .i64 (vs.length:Nat)),.s (.int .i64 (x.1:Nat)),.s (.int .i64 (x.2:Nat)),uu,uu,uu,uu,uu,uu,uu,uu,uu,uu,uu,uu,uu,uu,uu,uu,uu,uu,uu,uu,uu,uu,uu,uu,uu,uu,uu,uu,uu,uu,uu,uu,uu,uu,uu,uu,uu,uu]) (fun _=>S ++ [[.s (.int .i64 s.t),u8 s.n]]) (fun _=>H) (fun x=>x.1≤idxV vs s∧idxV vs s≤x.2∧x.2≤vs.length) (0,vs.length) ⟨Nat.zero_le _,hile,Nat.le_refl _⟩ (by rfl) (by rw [app_take_add]; rfl) rfl (fun a _=>by simp [AV.under,AV.under.go]) ?_
  rintro ⟨i,j⟩ ⟨h1,h2,h3⟩ ih
  dsimp only at h1 h2 h3 ih ⊢
  by_cases hij:i < j
  · have hlt:((i:Int) < (j:Int)):=by omega
    have hw:IntKind.i64.wrap ((i:Int) + (j:Int))=((i + j:Nat):Int):=by rw [wrap_i64 (by omega) (by omega)]; omega
    have hu:IntKind.u64.wrap ((i + j:Nat):Int)=((i + j:Nat):Int):=wu64' (by omega)
    have hv:IntKind.i64.wrap (((i + j) / 2:Nat):Int)=(((i + j) / 2:Nat):Int):=wrap_i64 (by omega) (by omega)
    have hh:(i + j) / 2 < vs.length:=by omega
    have hix:=fun k=>ixl_v (k:=k) hh
    have hw2:=wrap_succ (i:=(i + j) / 2) (by omega)
    simp only [Cz3,A_,simprocAttr,ne_eq,Uz8.1,CHK_,Nat.reduceBEq,hlt,convL,hw,hu,hv,half_fdiv,hix,rdv]
    refine hg vs[(i + j) / 2] s _ _ _ ?_
    have hk:=idx_lt hs (s:=s) hh
    by_cases hc:cmpS vs[(i + j) / 2].st s < 0
    · have:=hk.2 hc
      simp only [Cz3,A_,simprocAttr,ne_eq,Uz8.1,CHK_,Nat.reduceBEq,hlt,convL,hw,hu,hv,half_fdiv,hix,rdv,hc,hw2]
      exact ih ((i + j) / 2 + 1,j) _ _ _ (by dsimp only; omega) ⟨by dsimp only; omega,h2,h3⟩ (by rfl) (by rw [app_take_add]; rfl) rfl
    · have:¬((i + j) / 2 < idxV vs s):=fun q=>hc (hk.1 q)
      simp only [Cz3,A_,simprocAttr,ne_eq,Uz8.1,CHK_,Nat.reduceBEq,hlt,convL,hw,hu,hv,half_fdiv,hix,rdv,hc,hw2]
      exact ih (i,(i + j) / 2) _ _ _ (by dsimp only; omega) ⟨h1,by dsimp only; omega,by dsimp only; omega⟩ (by rfl) (by rw [app_take_add]; rfl) rfl
  · have hlt:¬((i:Int) < (j:Int)):=by omega
    have he:i=idxV vs s:=by omega
    subst he
    by_cases hn:idxV vs s < vs.length
    · have hnl:((idxV vs s:Nat):Int) < (vs.length:Int):=by omega
      have hix:=fun k=>ixl_v (k:=k) hn
      simp only [Cz3,A_,simprocAttr,ne_eq,Uz8.1,CHK_,Nat.reduceBEq,hlt,hnl,hix,rdv]
      refine hg vs[idxV vs s] s _ _ _ ?_
      have hb:decide (cmpS vs[idxV vs s].st s=0)=hasV vs s:=by
        cases hq:hasV vs s with
        | true =>
          obtain ⟨_,e⟩:=(has_iff hs s).1 hq
          exact decide_eq_true e
        | false =>
          refine decide_eq_false fun e => ?_
          have:=(has_iff hs s).2 ⟨hn,e⟩
          rw [hq] at this; cases this
      simp only [Cz3,A_,simprocAttr,ne_eq,Uz8.1,CHK_,Nat.reduceBEq,hlt,hnl,hix,rdv,hb]
      exact hK
    · have hnl:¬((idxV vs s:Nat):Int) < (vs.length:Int):=by omega
      have hb:hasV vs s=false:=by
        cases hq:hasV vs s with
        | true =>
          obtain ⟨h5,_⟩:=(has_iff hs s).1 hq
          exact absurd h5 hn
        | false=>rfl
      rw [hb] at hK
      simp only [Cz3,A_,simprocAttr,ne_eq,Uz8.1,CHK_,Nat.reduceBEq,hlt,hnl]
      exact hK
theorem place_spec {C:CallW} (P:Program) {c:Nat→FuncId} (h0:BsS C (c 0)) (h1:CmpVS C (c 1)):∀(vs:List Ver) (s:Stp) S H (K:AV→St→Prop),SorV vs→vs.length≤1000→K (.tup [.s (.int .i64 (idxV vs s:Nat)),.s (.bool (hasV vs s))]) ⟨S,H⟩→runL C P (Cz15 c) [.rop [lstV vs],.agg (stc s)] ⟨S,H⟩ K:=by
  intro vs s S H K hs hl hK
  have h0':=h0 vs s (c 1)
  simp only [lstV,stc] at h0'
  simp only [lstV,stc,Cz15,A_,simprocAttr,ne_eq,(Uz1z _).1,CHK_,Nat.reduceBEq]
  refine h0' _ _ _ hs hl h1 ?_
  simp only [lstV,stc,Cz15,A_,simprocAttr,ne_eq,(Uz1z _).1,CHK_,Nat.reduceBEq]
  exact hK
theorem has_spec {C:CallW} (P:Program) {c:Nat→FuncId} (h0:RPlaceS C (c 0)):∀(vs:List Ver) (s:Stp) S H (K:AV→St→Prop),SorV vs→vs.length≤1000→K (.s (.bool (hasV vs s))) ⟨S,H⟩→runL C P (Cz1c c) [.rop [lstV vs],.agg (stc s)] ⟨S,H⟩ K:=by
  intro vs s S H K hs hl hK
  simp only [stc,Cz1c,A_,simprocAttr,ne_eq,(Uz25 _).1,CHK_,Nat.reduceBEq]
  refine h0 vs s _ _ _ hs hl ?_
  simp only [stc,Cz1c,A_,simprocAttr,ne_eq,(Uz25 _).1,CHK_,Nat.reduceBEq]
  exact hK
theorem until_spec {C:CallW} (P:Program) {c:Nat→FuncId} (h0:RPlaceS C (c 0)):∀(vs:List Ver) (s:Stp) S H (K:AV→St→Prop),SorV vs→vs.length≤1000→K (.s (.int .i64 (untV vs s:Nat))) ⟨S,H⟩→runL C P (Czv c) [.rop [lstV vs],.agg (stc s)] ⟨S,H⟩ K:=by
  intro vs s S H K hs hl hK
  have hu:=unt_has hs s
  have hi:=idx_le vs s
  have hw:=wrap_succ (i:=idxV vs s) (by omega)
  simp only [stc,Czv,A_,simprocAttr,ne_eq,(Uz1h _).1,CHK_,Nat.reduceBEq]
  refine h0 vs s _ _ _ hs hl ?_
  cases hh:hasV vs s with
  | true =>
    rw [hh,if_pos rfl] at hu
    rw [hu] at hK
    simp only [stc,Czv,A_,simprocAttr,ne_eq,(Uz1h _).1,CHK_,Nat.reduceBEq,hw]
    exact hK
  | false =>
    rw [hh,if_neg (by simp)] at hu
    rw [hu] at hK
    simp only [stc,Czv,A_,simprocAttr,ne_eq,(Uz1h _).1,CHK_,Nat.reduceBEq,hw]
    exact hK
theorem at_get {vs:List Ver} {s:Stp} (h:0 < untV vs s):∃hi:untV vs s - 1 < vs.length,atV vs s=some vs[untV vs s - 1]:=by
  have:=unt_le vs s
  refine ⟨by omega,?_⟩
  unfold atV
  rw [List.getLast?_eq_getElem?,List.length_take,Nat.min_eq_left this,List.getElem?_take,if_pos (by omega),List.getElem?_eq_getElem (by omega)]
theorem at_none {vs:List Ver} {s:Stp} (h:untV vs s=0):atV vs s=none:=by unfold atV; rw [h]; rfl
theorem at_spec {C:CallW} (P:Program) {c:Nat→FuncId} (h0:RUntS C (c 0)):∀(vs:List Ver) (s:Stp) S H (K:AV→St→Prop),SorV vs→vs.length≤1000→K (.tup [.agg (verc ((atV vs s).getD ver0)),.s (.bool (atV vs s).isSome)]) ⟨S,H⟩→runL C P (Cz16 c) [.rop [lstV vs],.agg (stc s)] ⟨S,H⟩ K:=by
  intro vs s S H K hs hl hK
  have hul:=unt_le vs s
  simp only [stc,Cz16,A_,simprocAttr,ne_eq,(Uz1u _).1,CHK_,Nat.reduceBEq]
  refine h0 vs s _ _ _ hs hl ?_
  by_cases h:untV vs s=0
  · have e1:(((untV vs s:Nat):Int)=0)=True:=eq_true (by omega)
    rw [at_none h] at hK
    simp only [stc,Cz16,A_,simprocAttr,ne_eq,(Uz1u _).1,CHK_,Nat.reduceBEq,e1]
    exact hK
  · have e1:(((untV vs s:Nat):Int)=0)=False:=eq_false (by omega)
    obtain ⟨hi,e2⟩:=at_get (vs:=vs) (s:=s) (by omega)
    rw [e2] at hK
    have hw:IntKind.i64.wrap (((untV vs s:Nat):Int) - 1)=((untV vs s - 1:Nat):Int):=by rw [wrap_i64 (by omega) (by omega)]; omega
    have hix:=fun k=>ixl_v (k:=k) hi
    simp only [lstV,stc,Cz16,A_,simprocAttr,ne_eq,(Uz1u _).1,CHK_,Nat.reduceBEq,e1,hw,hix,rdv,verc]
    exact hK
theorem newest_spec {C:CallW} (P:Program):∀(vs:List Ver) S H (K:AV→St→Prop),vs.length≤1000→K (.tup [.agg (verc (vs.getLast?.getD ver0)),.s (.bool vs.getLast?.isSome)]) ⟨S,H⟩→runL C P Cz12 [.rop [lstV vs]] ⟨S,H⟩ K:=by
  intro vs S H K hl hK
  by_cases h:vs.length=0
  · have hv:vs=[]:=List.length_eq_zero_iff.1 h
    subst hv
    simp only [lstV,Cz12,A_,simprocAttr,ne_eq,Uz1v.1,CHK_,Nat.reduceBEq,List.map_nil]
    exact hK
  · have e1:(((vs.length:Nat):Int)=0)=False:=eq_false (by omega)
    have hi:vs.length - 1 < vs.length:=by omega
    have e2:vs.getLast? = some vs[vs.length - 1]:=by rw [List.getLast?_eq_getElem?,List.getElem?_eq_getElem hi]
    rw [e2] at hK
    have hw:IntKind.i64.wrap (((vs.length:Nat):Int) - 1)=((vs.length - 1:Nat):Int):=by rw [wrap_i64 (by omega) (by omega)]; omega
    have hix:=fun k=>ixl_v (k:=k) hi
    simp only [lstV,Cz12,A_,simprocAttr,ne_eq,Uz1v.1,CHK_,Nat.reduceBEq,List.length_map,e1,hw,hix,rdv,verc]
    exact hK
theorem len_spec {C:CallW} (P:Program):∀(vs:List Ver) S H (K:AV→St→Prop),K (.s (.int .i64 (vs.length:Nat))) ⟨S,H⟩→runL C P Cz1o [.rop [lstV vs]] ⟨S,H⟩ K:=by
  intro vs S H K hK
  simp only [lstV,Cz1o,A_,simprocAttr,ne_eq,Uz38.1,CHK_,Nat.reduceBEq,List.length_map]
  exact hK
end Go.AM
namespace Go.AM
open Go
set_option maxRecDepth 20000
def cloneV (l:List Ver) (v:AV):Prop:=(l≠[]∧v = .list .uniq 4 (l.map verA))∨(l=[]∧(v = .nilS∨v = .list .full 4 []))
theorem cloneV_ch {l:List Ver} {v:AV} (h:cloneV l v):(l≠[]→v=chK l)∧ChX v l:=by
  rcases h with ⟨h0,rfl⟩ | ⟨rfl,rfl | rfl⟩
  · have:AV.list .uniq 4 (l.map verA)=chK l:=by
      cases l with
      | nil=>exact absurd rfl h0
      | cons x l=>rfl
    exact ⟨fun _=>this,.inl this⟩
  · exact ⟨fun h=>absurd rfl h,.inl rfl⟩
  · exact ⟨fun h=>absurd rfl h,.inr (.inr ⟨rfl,_,rfl⟩)⟩
theorem verA_low:∀{l:List Ver},AV.under.go 0 (l.map verA)=true
  | []=>rfl
  | v :: l=>by rw [List.map_cons]; simp only [AV.under.go,verA_low (l:=l),Bool.and_true]; rfl
def CloneVS (C:CallW) (f:FuncId):Prop:=∀(l:List Ver) S H (K:AV→St→Prop),l.length≤1000→(∀v,cloneV l v→K v ⟨S,H⟩)→C (.fn f) [lstV l] ⟨S,H⟩ K
set_option maxHeartbeats 1000000 in
theorem cloneV_spec {C:CallW} (hC:LeC C C) (P:Program):∀(l:List Ver) S H (K:AV→St→Prop),l.length≤1000→(∀v,cloneV l v→K v ⟨S,H⟩)→runL C P Czx [lstV l] ⟨S,H⟩ K:=by
  intro l S H K hl hK
  cases l with
  | nil =>
    simp only [lstV,Czx,A_,simprocAttr,ne_eq,Uzw.1]
    rintro (_ | _)
    · simp only [A_,simprocAttr,ne_eq,Uzw.1,bslL,appendL,srcL,appItems,elemsL,List.isEmpty_nil,Option.bind_some]
      exact hK _ (.inr ⟨rfl,.inr rfl⟩)
    · simp only [A_,simprocAttr,ne_eq,Uzw.1]
      exact hK _ (.inr ⟨rfl,.inl rfl⟩)
  | cons k l =>
    have hlow:AV.under.go 0 (l.map verA)=true:=verA_low
    have hk:AV.under 0 (verA k)=true:=rfl
    simp only [List.length_cons] at hl
    have hb:(l.length + 1) * 40≤2 ^ 48:=by omega
    simp only [lstV,Czx,A_,simprocAttr,ne_eq,Uzw.1,refEq,bslL,appendL,srcL,appItems,elemsL,List.isEmpty_nil,List.isEmpty_cons,Option.bind_some,hb,Option.map_some,and_self,hk,hlow]
    exact hK _ (.inl ⟨by simp,rfl⟩)
def InsVS (C:CallW) (f:FuncId):Prop:=∀(vs:List Ver) (v:Ver) (i:Nat) S H (K:AV→St→Prop),i≤vs.length→vs.length≤1000→K (chK (vs.take i ++ v :: vs.drop i)) ⟨S,H⟩→C (.fn f) [chK vs,.s (.int .i64 (i:Nat)),.list .full 4 [.agg (verc v)]] ⟨S,H⟩ K
theorem chK_ne {l:List Ver} (h:l≠[]):chK l = .list .uniq 4 (l.map verA):=by
  cases l with
  | nil=>exact absurd rfl h
  | cons x l=>rfl
theorem kit_InsV {P:Program} {C:CallW} (h:KitW P C) {ρ : Shelf.Ren} {zr:Value} (L:Proofs.InsL P ρ 4 zr 40):InsVS C (ρ.f 22):=by
  intro vs v i S H K hi hl hK
  rw [chK_ne (by simp)] at hK
  cases vs with
  | nil =>
    have:i=0:=by simpa using hi
    subst this
    exact h.insN ρ 4 zr 40 L (by omega) [.agg (verc v)] .full _ K (by simp) (by simp) (.inr rfl) hK
  | cons x vs =>
    simp only [List.length_cons] at hi hl
    refine h.ins ρ 4 zr 40 L (by omega) ((x :: vs).map verA) [.agg (verc v)] i .full _ K (by simpa using hi) (by simp) (by simp; omega) (.inr rfl) ?_
    rw [List.map_append,List.map_cons,List.map_take,List.map_drop] at hK
    rw [List.append_assoc]
    exact hK
theorem hset2 {H:List HObj} {b:Nat} {o o':HObj}:(H.set b o).set b o'=H.set b o':=by simp
theorem ld_ch {S:List (List AV)} {H:List HObj} {b:Nat} {vs:List Ver} (hb:H[b]? = some (.cells [chK vs])):load1L true (.ptr (.heap b) 0) ⟨S,H⟩=some (chK vs,⟨S,H.set b (.cells [(chK vs).left])⟩):=by
  have hbo:boxOf ⟨S,H⟩ (.heap b)=some [chK vs]:=by simp [boxOf,hb]
  simp [load1L,hbo,splice,setBox]
theorem st_ch {S:List (List AV)} {H:List HObj} {b:Nat} {a v:AV} (hb:b < H.length) (hv:v.fit=true) (hc:v.isCell=true∨v.kept=true) (hu:AV.under 0 v=true):storeUL (.ptr (.heap b) 0) v ⟨S,H.set b (.cells [a])⟩=some ⟨S,H.set b (.cells [v])⟩:=by
  have hbo:boxOf ⟨S,H.set b (.cells [a])⟩ (.heap b)=some [a]:=by simp [boxOf,hb]
  simp [storeUL,hv,hc,hbo,writeCells,mayHold,AV.under.go,hu,splice,setBox]
def lkV (vs:List Ver):AV:=(chK vs).look
theorem ld_lk {S:List (List AV)} {H:List HObj} {b:Nat} {vs:List Ver} (hb:H[b]? = some (.cells [chK vs])):load1L false (.ptr (.heap b) 0) ⟨S,H⟩=some (lkV vs,⟨S,H⟩):=by
  have hbo:boxOf ⟨S,H⟩ (.heap b)=some [chK vs]:=by simp [boxOf,hb]
  simp [load1L,hbo,lkV]
theorem len_lk {vs:List Ver} {σ:St}:lenL .sl (lkV vs) σ=some vs.length:=by cases vs <;> simp [lkV,chK,AV.look,lenL]
theorem lk_lk {vs:List Ver}:(lkV vs).look=lkV vs:=by cases vs <;> rfl
theorem sh_lk {vs:List Ver} {t:Nat} {fr:Fr}:sharedL t fr (lkV vs)=(lkV vs,fr):=by cases vs <;> rfl
theorem chK_fit {vs:List Ver}:(chK vs).fit=true:=by cases vs <;> rfl
theorem chK_kept {vs:List Ver}:(chK vs).isCell=true∨(chK vs).kept=true:=by cases vs <;> simp [chK,AV.isCell,AV.kept]
theorem chK_low {vs:List Ver}:AV.under 0 (chK vs)=true:=by cases vs <;> rfl
theorem chK_ins {vs:List Ver} {v:Ver}:chK (insV vs v) = .list .uniq 4 ((insV vs v).map verA):=chK_ne (by unfold insV; simp)
set_option maxHeartbeats 4000000 in
theorem put_spec {C:CallW} (P:Program) {c:Nat→FuncId} (h0:∀s:Stp,FnS C (c 0) [.agg (stc s)] (.bool (goodS s))) (h1:PPlaceS C (c 1)) (h2:InsVS C (c 2)):∀(b:Nat) (vs:List Ver) (v:Ver) S H (K:AV→St→Prop),H[b]? = some (.cells [chK vs])→SorV vs→vs.length≤50→K (.s (.int .i64 (putV vs v).1)) ⟨S,H.set b (.cells [chK (putV vs v).2])⟩→runL C P (Cz6 c) [.ptr (.heap b) 0,.agg (verc v)] ⟨S,H⟩ K:=by
  intro b vs v S H K hb hs hl hK
  have hid:H.set b (.cells [chK vs])=H:=hsetid hb
  have x1:=fun S=>ld_lk (S:=S) hb
  have x2:=fun S=>ld_ch (S:=S) hb
  have hbl:=hlt hb
  have bad:okV v=false→K (.s (.int .i64 1)) ⟨S,H⟩:=fun h=>by
    have:putV vs v=(1,vs):=by unfold putV; rw [if_pos h]
    rw [this] at hK
    rw [hid] at hK
    exact hK
  simp only [verc,Cz6,A_,simprocAttr,ne_eq,(Uz9 _).1]
  refine h0 v.st _ _ _ ?_
  cases hg:goodS v.st with
  | false =>
    have:=bad (by unfold okV; rw [hg]; rfl)
    simp only [verc,Cz6,A_,simprocAttr,ne_eq,(Uz9 _).1]
    exact this
  | true =>
  by_cases hvl:200 < v.val.length
  · have e1:((200:Int) < (v.val.length:Int))=True:=eq_true (by omega)
    have:=bad (by unfold okV; rw [decide_eq_false (by omega)]; simp)
    simp only [verc,Cz6,A_,simprocAttr,ne_eq,(Uz9 _).1,e1]
    exact this
  have e1:((200:Int) < (v.val.length:Int))=False:=eq_false (by omega)
  by_cases hgv:v.gone=true∧v.val≠[]
  · have e2:(v.val=[])=False:=eq_false hgv.2
    have:=bad (by unfold okV; rw [hgv.1]; cases hh:v.val with
      | nil=>exact absurd hh hgv.2
      | cons a l=>simp)
    simp only [verc,Cz6,A_,simprocAttr,ne_eq,(Uz9 _).1,e1,hgv.1,e2]
    exact this
  have hok:okV v=true:=by
    unfold okV
    rw [hg,decide_eq_true (by omega)]
    cases h1:v.gone with
    | false=>rfl
    | true =>
      cases h2:v.val with
      | nil=>rfl
      | cons a l=>exact absurd ⟨h1,by simp [h2]⟩ hgv
  have hp:putV vs v=if hasV vs v.st=true then (5,vs) else if 50≤vs.length then (6,vs) else (0,insV vs v):=by unfold putV; rw [if_neg (by rw [hok]; simp)]
  have fin3:∀a:Stp×Nat,a.2=0→True:=fun _ _=>trivial
  have hgv2:v.gone=false∨(v.gone=true∧v.val=[]):=by
    cases h1:v.gone with
    | false=>exact .inl rfl
    | true=>exact .inr ⟨rfl,Classical.byContradiction fun h=>hgv ⟨h1,h⟩⟩
  have h1':=fun S H K=>h1 b (chK vs) vs v.st S H K
  simp only [stc] at h1'
  have x3:∀{S:List (List AV)} {a:AV},storeUL (.ptr (.heap b) 0) (chK (insV vs v)) ⟨S,H.set b (.cells [a])⟩=some ⟨S,H.set b (.cells [chK (insV vs v)])⟩:=fun {S a}=>st_ch hbl chK_fit chK_kept chK_low
  have h2':=fun S H K=>h2 vs v (idxV vs v.st) S H K (idx_le _ _) (by omega)
  have hi:vs.take (idxV vs v.st) ++ v :: vs.drop (idxV vs v.st)=insV vs v:=rfl
  rw [hi] at h2'
  simp only [verc] at h2'
  rcases hgv2 with h6 | ⟨h6,h7⟩
  · simp only [verc,Cz6,A_,simprocAttr,ne_eq,(Uz9 _).1,e1,h6]
    refine h1' _ _ _ hb (.inl rfl) hs (by omega) ?_
    rw [h6] at h2'
    cases hh:hasV vs v.st with
    | true =>
      rw [hp,if_pos hh,hid] at hK
      simp only [Cz6,A_,simprocAttr,ne_eq,(Uz9 _).1]
      exact hK
    | false =>
    rw [hp,if_neg (by rw [hh]; simp)] at hK
    by_cases h5:50≤vs.length
    · have e5:((50:Int)≤(vs.length:Int))=True:=eq_true (by omega)
      rw [if_pos h5,hid] at hK
      simp only [Cz6,A_,simprocAttr,ne_eq,(Uz9 _).1,x1,len_lk,lk_lk,sh_lk,e5]
      exact hK
    have e5:((50:Int)≤(vs.length:Int))=False:=eq_false (by omega)
    rw [if_neg h5] at hK
    simp only [Cz6,A_,simprocAttr,ne_eq,(Uz9 _).1,CHK_,Nat.reduceBEq,x1,x2,len_lk,lk_lk,sh_lk,e5]
    refine h2' _ _ _ ?_
    rw [chK_ins] at x3 ⊢
    simp only [Cz6,A_,simprocAttr,ne_eq,(Uz9 _).1,CHK_,Nat.reduceBEq,x3]
    rw [←chK_ins]
    exact hK
  · simp only [verc,Cz6,A_,simprocAttr,ne_eq,(Uz9 _).1,e1,h6,h7]
    refine h1' _ _ _ hb (.inl rfl) hs (by omega) ?_
    rw [h6,h7] at h2'
    cases hh:hasV vs v.st with
    | true =>
      rw [hp,if_pos hh,hid] at hK
      simp only [Cz6,A_,simprocAttr,ne_eq,(Uz9 _).1]
      exact hK
    | false =>
    rw [hp,if_neg (by rw [hh]; simp)] at hK
    by_cases h5:50≤vs.length
    · have e5:((50:Int)≤(vs.length:Int))=True:=eq_true (by omega)
      rw [if_pos h5,hid] at hK
      simp only [Cz6,A_,simprocAttr,ne_eq,(Uz9 _).1,x1,len_lk,lk_lk,sh_lk,e5]
      exact hK
    have e5:((50:Int)≤(vs.length:Int))=False:=eq_false (by omega)
    rw [if_neg h5] at hK
    simp only [Cz6,A_,simprocAttr,ne_eq,(Uz9 _).1,CHK_,Nat.reduceBEq,x1,x2,len_lk,lk_lk,sh_lk,e5]
    refine h2' _ _ _ ?_
    rw [chK_ins] at x3 ⊢
    simp only [Cz6,A_,simprocAttr,ne_eq,(Uz9 _).1,CHK_,Nat.reduceBEq,x3]
    rw [←chK_ins]
    exact hK
end Go.AM
namespace Go.AM
open Go
set_option maxRecDepth 20000
theorem ld_sh {S:List (List AV)} {H:List HObj} {b:Nat} {vs:List Ver} (hb:H[b]? = some (.cells [lstV vs])):load1L false (.ptr (.heap b) 0) ⟨S,H⟩=some (.list .sh 4 (vs.map verA),⟨S,H⟩):=by
  have hbo:boxOf ⟨S,H⟩ (.heap b)=some [lstV vs]:=by simp [boxOf,hb]
  simp [load1L,hbo,lstV,AV.look]
theorem sl_drop {vs:List Ver} {n:Nat} (h:n≤vs.length):sliceL (.sl 4) (.list .sh 4 (vs.map verA)) (some (.s (.int .i64 (n:Int)))) none none=some (.list .sh 4 ((vs.drop n).map verA)):=by
  simp [sliceL,bound,h,List.map_drop,List.take_of_length_le]
theorem ld_gone {v:Ver} {σ:St}:load1L false (.rop ((verc v).drop 3)) σ=some (.s (.bool v.gone),σ):=rfl
set_option maxHeartbeats 4000000 in
theorem trim_spec {C:CallW} (P:Program) {c:Nat→FuncId} (h0:PUntS C (c 0)) (h1:CloneVS C (c 1)):∀(b:Nat) (vs:List Ver) (s:Stp) S H (K:AV→St→Prop),H[b]? = some (.cells [lstV vs])→SorV vs→vs.length≤50→(∀X,cloneV (vs.drop (cutV vs s)) X→K (.s (.int .i64 (cutV vs s:Nat))) ⟨S,H.set b (.cells [X])⟩)→runL C P (Czh c) [.ptr (.heap b) 0,.agg (stc s)] ⟨S,H⟩ K:=by
  intro b vs s S H K hb hs hl hK
  have hul:=unt_le vs s
  have hbl:=hlt hb
  have x1:=fun S=>ld_sh (S:=S) hb
  have h1':=fun n=>h1 (vs.drop n)
  simp only [lstV] at h1'
  have fin:∀(n:Nat),n=cutV vs s→n≤vs.length→∀X,cloneV (vs.drop n) X→K (.s (.int .i64 (n:Int))) ⟨S,H.set b (.cells [X])⟩:=fun n e _ X hX=>by subst e; exact hK X hX
  have st:∀{S:List (List AV)} {X:AV} {l:List Ver},cloneV l X→storeUL (.ptr (.heap b) 0) X ⟨S,H⟩=some ⟨S,H.set b (.cells [X])⟩:=fun {S X l} hX=>by
    have e:H=H.set b (.cells [lstV vs]):=(hsetid hb).symm
    rw [e]
    rcases hX with ⟨_,rfl⟩ | ⟨_,rfl | rfl⟩
    · rw [st_ch hbl rfl (.inr rfl) rfl,hset2]
    · rw [st_ch hbl rfl (.inl rfl) rfl,hset2]
    · rw [st_ch hbl rfl (.inl rfl) rfl,hset2]
  have tail:∀(n:Nat) (fr:Fr),n=cutV vs s→n≤vs.length→True:=fun _ _ _ _=>trivial
  simp only [stc,Czh,A_,simprocAttr,ne_eq,(Uzl _).1,CHK_,Nat.reduceBEq]
  refine h0 b _ vs s _ _ _ hb (.inr (.inl rfl)) hs (by omega) ?_
  by_cases hz:untV vs s=0
  · have e0:((0:Int) < ((untV vs s:Nat):Int))=False:=eq_false (by omega)
    have hc:untV vs s=cutV vs s:=by unfold cutV; rw [at_none hz]
    have hsl:=sl_drop hul
    simp only [stc,Czh,A_,simprocAttr,ne_eq,(Uzl _).1,CHK_,Nat.reduceBEq,e0,x1,hsl]
    refine h1' _ _ _ _ (by simp; omega) fun X hX => ?_
    have hX':=fin _ hc hul X hX
    have st:=fun S=>st (S:=S) hX
    rcases hX with ⟨_,rfl⟩ | ⟨_,rfl | rfl⟩ <;>
    · simp only [stc,Czh,A_,simprocAttr,ne_eq,(Uzl _).1,CHK_,Nat.reduceBEq,st]
      exact hX'
  · have e0:((0:Int) < ((untV vs s:Nat):Int))=True:=eq_true (by omega)
    obtain ⟨hi,e2⟩:=at_get (vs:=vs) (s:=s) (by omega)
    have hw:IntKind.i64.wrap (((untV vs s:Nat):Int) - 1)=((untV vs s - 1:Nat):Int):=by rw [wrap_i64 (by omega) (by omega)]; omega
    have hix:=fun k=>ixl_v (k:=k) hi
    cases hg:vs[untV vs s - 1].gone with
    | true =>
      have hc:untV vs s=cutV vs s:=by unfold cutV; rw [e2]; simp only [hg,if_true]
      have hsl:=sl_drop hul
      simp only [stc,Czh,A_,simprocAttr,ne_eq,(Uzl _).1,CHK_,Nat.reduceBEq,e0,x1,hw,hix,ld_gone,hg,hsl]
      refine h1' _ _ _ _ (by simp; omega) fun X hX => ?_
      have hX':=fin _ hc hul X hX
      have st:=fun S=>st (S:=S) hX
      rcases hX with ⟨_,rfl⟩ | ⟨_,rfl | rfl⟩ <;>
      · simp only [stc,Czh,A_,simprocAttr,ne_eq,(Uzl _).1,CHK_,Nat.reduceBEq,st]
        exact hX'
    | false =>
      have hc:untV vs s - 1=cutV vs s:=by unfold cutV; rw [e2]; simp [hg]
      have hsl:=sl_drop (vs:=vs) (n:=untV vs s - 1) (by omega)
      simp only [stc,Czh,A_,simprocAttr,ne_eq,(Uzl _).1,CHK_,Nat.reduceBEq,e0,x1,hw,hix,ld_gone,hg,hsl]
      refine h1' _ _ _ _ (by simp; omega) fun X hX => ?_
      have hX':=fin _ hc (by omega) X hX
      have st:=fun S=>st (S:=S) hX
      rcases hX with ⟨_,rfl⟩ | ⟨_,rfl | rfl⟩ <;>
      · simp only [stc,Czh,A_,simprocAttr,ne_eq,(Uzl _).1,CHK_,Nat.reduceBEq,st]
        exact hX'
theorem p_trim {P:Program} {C:CallW} {f:FuncId} (hk:KitW P C) (h:∀(b:Nat) (vs:List Ver) (s:Stp) S H (K:AV→St→Prop),H[b]? = some (.cells [lstV vs])→SorV vs→vs.length≤50→(∀X,cloneV (vs.drop (cutV vs s)) X→K (.s (.int .i64 (cutV vs s:Nat))) ⟨S,H.set b (.cells [X])⟩)→C (.fn f) [.ptr (.heap b) 0,.agg (stc s)] ⟨S,H⟩ K):PTrimS C f:=by
  intro b vs s S H K hb h0 hs hl hK
  refine hk.dn _ _ ⟨S,H⟩ K b 4 (vs.map verA) (by show H[b]? = _; rw [hb,chK_ne h0]) ?_
  refine h b vs s S (H.set b (.cells [lstV vs])) K (hself hb) hs hl fun X hX => ?_
  rw [hset2]
  exact hK X (cloneV_ch hX).1 (cloneV_ch hX).2
def ChNewS (C:CallW) (f:FuncId):Prop:=∀S H (K:AV→St→Prop),K (.ptr (.heap H.length) 0) ⟨S,H ++ [.cells [.s .nilS]]⟩→C (.fn f) [] ⟨S,H⟩ K
theorem chain_New_spec {C:CallW} (P:Program):∀S H (K:AV→St→Prop),K (.ptr (.heap H.length) 0) ⟨S,H ++ [.cells [.s .nilS]]⟩→runL C P Cz2y [] ⟨S,H⟩ K:=by
  intro S H K hK
  simp only [Cz2y,A_,simprocAttr,ne_eq,Uz5c.1]
  exact hK
end Go.AM
namespace Go.AM
open Go
set_option maxRecDepth 20000
end Go.AM
namespace Go.AM
open Go
set_option maxRecDepth 20000
end Go.AM
namespace Go.AM
open Go
set_option maxRecDepth 20000
end Go.AM
namespace Go.AM
open Go
set_option maxRecDepth 20000
def partW (pts:List Key) (l:List Wr) (j:Nat):List Wr:=l.filter fun w=>decide (ofK pts w.key=(j:Int))
def splitC (pts:List Key) (l:List Wr):List AV:=(List.range (pts.length + 1)).map fun j=>slO (partW pts l j)
end Go.AM
namespace Go.AM
open Go
set_option maxRecDepth 20000
end Go.AM
namespace Go.AM
open Go
set_option maxRecDepth 20000
end Go.AM
namespace Go.AM
open Go
set_option maxRecDepth 20000
end Go.AM
namespace Go.AM
open Go
set_option maxRecDepth 20000
end Go.AM
namespace Go.AM
open Go
set_option maxRecDepth 20000
end Go.AM
namespace Go.AM
open Go
set_option maxRecDepth 20000
def partsC (pts:List Key) (l:List Wr):List Nat:=(List.range (pts.length + 1)).filter fun j=>decide (partW pts l j≠[])
end Go.AM
namespace Go.AM
open Go
set_option maxRecDepth 20000
end Go.AM
namespace Go.AM
open Go
set_option maxRecDepth 20000
end Go.AM
namespace Go.AM
open Go
set_option maxRecDepth 20000
structure okB (r:Rec):Prop where
  ws:r.writes.length≤20
  vs:∀w∈r.writes,w.val.length≤250
  ps:r.parts.length≤12
  lo : -9223372036854775808≤r.id
  hi:r.id≤9223372036854775807
theorem okB.ok {r:Rec} (h:okB r):okR r:=⟨by have:=h.ws; omega,by have:=h.ps; omega⟩
end Go.AM
namespace Go.AM
open Go
set_option maxRecDepth 20000
end Go.AM
namespace Go.AM
open Go
set_option maxRecDepth 20000
end Go.AM
namespace Go.AM
open Go
set_option maxRecDepth 20000
end Go.AM
namespace Go.AM
open Go
end Go.AM
namespace Go.AM
open Go
set_option maxRecDepth 20000
end Go.AM
namespace Go.AM
open Go
set_option maxRecDepth 20000
end Go.AM
namespace Go.AM
open Go
def Loc {α:Type} (f:Rd→α×Rd):Prop:=∀r q,(f r).2=some q→∃b,r=some b∧∀c,f (some (b ++ c))=((f r).1,some (q ++ c))
theorem Loc.dead {α:Type} {f:Rd→α×Rd} (h:Loc f):(f none).2=none:=by
  cases hq:(f none).2 with
  | none=>rfl
  | some q=>obtain ⟨b,hb,_⟩:=h none q hq; cases hb
theorem Loc.bind {α β:Type} {f:Rd→α×Rd} {g:α→Rd→β×Rd} (hf:Loc f) (hg:∀a,Loc (g a)):Loc fun r=>g (f r).1 (f r).2:=by
  intro r q h
  obtain ⟨b1,hb1,hc1⟩:=hg _ _ q h
  obtain ⟨b,hb,hc⟩:=hf r b1 hb1
  refine ⟨b,hb,fun c => ?_⟩
  dsimp only
  rw [hc c,hc1 c]
theorem Loc.map {α β:Type} {f:Rd→α×Rd} (hf:Loc f) (g:α→β):Loc fun r=>(g (f r).1,(f r).2):=by
  intro r q h
  obtain ⟨b,hb,hc⟩:=hf r q h
  exact ⟨b,hb,fun c=>by dsimp only; rw [hc c]⟩
end Go.AM
namespace Go.AM
open Go
end Go.AM
namespace Go.AM
open Go
set_option maxRecDepth 20000
end Go.AM
namespace Go.AM
open Go
set_option maxRecDepth 20000
structure inR (r:Rec):Prop where
  ok:okR r
  lo : -9223372036854775808≤r.id
  hi:r.id≤9223372036854775807
end Go.AM
namespace Go.AM
open Go
set_option maxRecDepth 20000
end Go.AM
namespace Go.AM
open Go
set_option maxRecDepth 20000
end Go.AM
namespace Go.AM
open Go
structure It where
  key:Key
  val:List UInt8
  deriving DecidableEq
def itc (x:It):List AV:=bs x.key.b ++ [.s (.str x.val)]
def itA (x:It):AV := .agg (itc x)
theorem itc_length (x:It):(itc x).length=17:=by simp [itc,kc_length]
theorem itA_under {n:Nat} {x:It}:AV.under n (itA x)=true:=by simp [itA,itc,AV.under,under_app',under_bs,AV.under.go]
theorem itc_under {n:Nat} {x:It}:AV.under.go n (itc x)=true:=by simp [itc,AV.under,under_app',under_bs,AV.under.go]
theorem itA_low {n:Nat}:∀{l:List It},AV.under.go n (l.map itA)=true
  | []=>rfl
  | k :: l=>by simp only [List.map_cons,AV.under.go,itA_under,itA_low (l:=l),Bool.and_self]
theorem look_itc (x:It):(itc x).map AV.look=itc x:=by simp [itc,map_look_bs]; rfl
theorem ixl_it {l:List It} {i c:Nat} {k:IntKind} (h:i < l.length) (hc:c≠0):indexAddrL (.sl c) (.list .sh c (l.map itA)) (.s (.int k (i:Int)))=some (.rop (itc l[i])):=ixl_map h hc
theorem beq_itc (a b:It):AV.beq.go (itc a) (itc b)=decide (a=b):=by
  rw [itc,itc,beq_app_k,beq_kk]
  cases a; cases b
  simp [AV.beq.go,AV.beq,It.mk.injEq,Bool.decide_and,Bool.and_assoc]
theorem fits_itc (w:It):fitsL (lk ++ [.str]) (itc w)=true:=by rw [itc,fits_kr]; rfl
theorem take_itc (w:It):(itc w).take 17=itc w:=List.take_of_length_le (Nat.le_of_eq (itc_length w))
theorem take_itk (w:It):(itc w).take 16=bs w.key.b:=take_kc _ _
theorem drop_itc (w:It):(itc w).drop 16=[.s (.str w.val)]:=drop_kc _ _
theorem get_itc16 (x:It):(itc x)[16]? = some (.s (.str x.val)):=by rw [itc,get_kc16]; rfl
theorem IT_:type_of% @get_itc16∧type_of% @itc_length∧type_of% @itc_under∧type_of% @itA_low∧type_of% @look_itc∧type_of% @beq_itc∧type_of% @fits_itc∧type_of% @ixl_it∧type_of% @take_itc∧type_of% @take_itk∧type_of% @drop_itc:=⟨@get_itc16,@itc_length,@itc_under,@itA_low,@look_itc,@beq_itc,@fits_itc,@ixl_it,@take_itc,@take_itk,@drop_itc⟩
def lstIt (l:List It):AV := .list .sh 17 (l.map itA)
structure Msg where
  kind:Int
  frm:Int
  tto:Int
  id:Int
  num:Int
  stp:Stp
  key:Key
  unt:Key
  writes:List Wr
  items:List It
  val:List UInt8
  found:Bool
  yes:Bool
  err:Int
  deriving DecidableEq
end Go.AM
namespace Go.AM
open Go
set_option maxRecDepth 20000
def tF (_:Int):AV := .bool true
structure Tx1 where
  snap:Stp
  ws:List Wr
  step:Int
  spl:List Wr
  parts:List Nat
  said:List Int
  yes:Bool
  st:Stp
  err:Int
def txq (x:Tx1) (hw:Nat) (pv sv dv:AV):List AV:=[.s (.int .i64 x.snap.t),u8 x.snap.n,.map hw,.s (.int .i64 x.step),pv,sv,dv,.s (.bool x.yes),.s (.int .i64 x.st.t),u8 x.st.n,.s (.int .i64 x.err)]
def tx0 (s:Stp):Tx1:=⟨s,[],0,[],[],[],false,⟨0,0⟩,0⟩
structure TxE (H:List HObj) (O:List Nat) (b hw:Nat) (x:Tx1):Prop where
  atb:H[b]? = some (.cells (txq x hw (.s .nilS) (.s .nilS) (.s .nilM)))
  atw:MapKW H hw x.ws
  np:x.parts=[]
  ns:x.said=[]
  n1:b≠hw
  own:b∈O∧hw∈O
structure TxV (H:List HObj) (O:List Nat) (b hw hs hp:Nat) (pts:List Key) (x:Tx1):Prop where
  atb:H[b]? = some (.cells (txq x hw (lstI x.parts) (.row (.heap hp) 0 (pts.length + 1) (pts.length + 1)) (.map hs)))
  atw:MapKW H hw x.ws
  np:x.parts=partsC pts x.spl
  ls:x.spl.length≤1000∧pts.length≤1000
  ats:∃es c,H[hs]? = some (.map es c)∧MapG iA (fun i=>i) tF es c x.said
  nd:x.said.Nodup
  atp:H[hp]? = some (.cells (splitC pts x.spl))
  n1:b≠hw
  n2:b≠hs
  n3:b≠hp
  n4:hw≠hs
  n5:hw≠hp
  n6:hs≠hp
  own:b∈O∧hw∈O∧hs∈O∧hp∈O
def TxP (H:List HObj) (O:List Nat) (b:Nat) (pts:List Key) (x:Tx1):Prop:=(∃hw,TxE H O b hw x)∨∃hw hs hp,TxV H O b hw hs hp pts x
theorem mapkw_keep {H H':List HObj} {l:List Nat} {hw:Nat} {ws:List Wr} (t:MapKW H hw ws) (k:KeepF H H' l) (e:hw∉l):MapKW H' hw ws:=by
  obtain ⟨⟨es,c,a,g⟩,nd,ln⟩:=t
  exact ⟨⟨es,c,k.get a e,g⟩,nd,ln⟩
section
variable {H H':List HObj} {O O' l:List Nat} {b hw hs hp:Nat} {pts:List Key} {x y:Tx1}
theorem TxE.keep (t:TxE H O b hw x) (k:KeepF H H' l) (e:∀i∈O,i∉l) (eo:∀i∈O,i∈O'):TxE H' O' b hw x :=
  ⟨k.get t.atb (e _ t.own.1),mapkw_keep t.atw k (e _ t.own.2),t.np,t.ns,t.n1,eo _ t.own.1,eo _ t.own.2⟩
theorem TxV.keep (t:TxV H O b hw hs hp pts x) (k:KeepF H H' l) (e:∀i∈O,i∉l) (eo:∀i∈O,i∈O'):TxV H' O' b hw hs hp pts x:=by
  obtain ⟨es,c,a,g⟩:=t.ats
  exact ⟨k.get t.atb (e _ t.own.1),mapkw_keep t.atw k (e _ t.own.2.1),t.np,t.ls,⟨es,c,k.get a (e _ t.own.2.2.1),g⟩,t.nd,k.get t.atp (e _ t.own.2.2.2),t.n1,t.n2,t.n3,t.n4,t.n5,t.n6,eo _ t.own.1,eo _ t.own.2.1,eo _ t.own.2.2.1,eo _ t.own.2.2.2⟩
theorem TxP.keep (t:TxP H O b pts x) (k:KeepF H H' l) (e:∀i∈O,i∉l) (eo:∀i∈O,i∈O'):TxP H' O' b pts x:=by
  rcases t with ⟨hw,t⟩ | ⟨hw,hs,hp,t⟩
  · exact .inl ⟨hw,t.keep k e eo⟩
  · exact .inr ⟨hw,hs,hp,t.keep k e eo⟩
theorem TxV.fresh (t:TxV H O b hw hs hp pts x) (low:∀i∈O,i < H.length) (e1:y.ws=x.ws) (e2:y.spl=x.spl) (e3:y.parts=x.parts) (e4:y.said=[]):TxV ((H ++ [HObj.map [] 0]).set b (.cells (txq y hw (lstI x.parts) (.row (.heap hp) 0 (pts.length + 1) (pts.length + 1)) (.map H.length)))) (H.length :: O) b hw H.length hp pts y:=by
  obtain ⟨hb,⟨⟨q3,c3,a3,g3⟩,n,ln⟩,p,pl,⟨e5,c5,a,g5⟩,snd,atp,n1,n2,n3,n4,n5,n6,⟨o1,o2,o3,o4⟩⟩:=t
  have l1:=low _ o1
  have l2:=low _ o2
  have l4:=low _ o4
  rw [←e3]
  refine ⟨hself (happ hb),⟨⟨q3,c3,hset n1 (happ a3),?_⟩,?_,?_⟩,?_,by rw [e2]; exact pl,⟨[],0,hset (o:=HObj.map [] 0) (by omega) (by simp),?_⟩,?_,?_,n1,by omega,n3,by omega,n5,by omega,List.mem_cons_of_mem _ o1,List.mem_cons_of_mem _ o2,List.mem_cons_self,List.mem_cons_of_mem _ o4⟩
  · rw [e1]; exact g3
  · rw [e1]; exact n
  · rw [e1]; exact ln
  · rw [e3,e2]; exact p
  · rw [e4]; exact ⟨rfl,.nil,fun e h=>by cases h⟩
  · rw [e4]; exact .nil
  · rw [e2]; exact hset n3 (happ atp)
end
theorem pw_ne {α:Type} {R:α→α→Prop} (hs:∀a b,R a b→R b a):∀{l:List α},l.Pairwise R→∀a∈l,∀b∈l,a≠b→R a b
  | [],_,a,ha,_,_,_=>by cases ha
  | x :: l,h,a,ha,b,hb,hne=>by
    obtain ⟨h1,h2⟩:=List.pairwise_cons.1 h
    rcases List.mem_cons.1 ha with e | ha' <;> rcases List.mem_cons.1 hb with e' | hb'
    · exact absurd (e.trans e'.symm) hne
    · rw [e]; exact h1 b hb'
    · rw [e']; exact hs _ _ (h1 a ha')
    · exact pw_ne hs h2 a ha' b hb' hne
structure FT where
  id:Int
  b:Nat
  O:List Nat
  x:Tx1
def FT.p (t:FT):Int×Tx1:=(t.id,t.x)
def ptF (t:FT):AV := .ptr (.heap t.b) 0
structure FrG (H:List HObj) (O:List Nat) (h hl ht:Nat) (pts:List Key) (l:List FT):Prop where
  at0:H[h]? = some (.cells [.ptr (.heap ht) 0,.map hl])
  tab:H[ht]? = some (tabA pts)
  atl:∃es c,H[hl]? = some (.map es c)∧MapG iA FT.id ptF es c l
  nd:(l.map FT.id).Nodup
  ne:h≠hl
  tx:∀t∈l,TxP H t.O t.b pts t.x∧∀i∈t.O,i∈O∧i≠h∧i≠hl
  dis:l.Pairwise (fun s t=>∀i∈s.O,i∉t.O)
  own:h∈O∧hl∈O
  low:∀i∈O,i < H.length
  nt:ht∉O
section
variable {H H':List HObj} {O O':List Nat} {h hl ht:Nat} {pts:List Key} {l:List FT}
theorem FrG.look {S:List (List AV)} (t:FrG H O h hl ht pts l) (i:Int):lookupL (.one (.int .i64)) (.s .nilP) false (.map hl) (.s (.int .i64 i)) ⟨S,H⟩=some (match getB FT.id l i with | some t=>ptF t | none => .s .nilP):=by
  obtain ⟨es,c,a,g⟩:=t.atl
  have:=map_look keyK_int (S:=S) (k:=i) (z := .s .nilP) (ok:=false) a g.rel
  rw [show iA i=AV.s (.int .i64 i) from rfl] at this
  rw [this]
  cases getB FT.id l i <;> rfl
theorem FrG.keep {k:List Nat} (t:FrG H O h hl ht pts l) (e:KeepF H H' k) (e1:∀i∈O,i∉k) (e2:ht∉k):FrG H' O h hl ht pts l:=by
  obtain ⟨es,c,a,g⟩:=t.atl
  exact ⟨e.get t.at0 (e1 _ t.own.1),e.get t.tab e2,⟨es,c,e.get a (e1 _ t.own.2),g⟩,t.nd,t.ne,fun s hs=>⟨(t.tx s hs).1.keep e (fun i hi=>e1 i ((t.tx s hs).2 i hi).1) (fun _ h=>h),(t.tx s hs).2⟩,t.dis,t.own,fun i hi=>Nat.lt_of_lt_of_le (t.low i hi) e.1,t.nt⟩
theorem FrG.step {s:FT} {x:Tx1} {P:List Nat} (t:FrG H O h hl ht pts l) (hs:s∈l) (lf:Left H H' s.O P) (tp:TxP H' P s.b pts x) (lw:∀i∈P,i < H'.length):FrG H' (O ++ P) h hl ht pts (l.map fun r=>if r.id=s.id then ⟨s.id,s.b,P,x⟩ else r)∧Left H H' O (O ++ P):=by
  have k:=lf.keep
  have own:=(t.tx s hs).2
  have hP:∀i∈P,i∉O→H.length≤i:=fun i hi ho=>(lf.old i hi).elim (fun q=>absurd (own i q).1 ho) id
  have hPn:∀i∈P,i≠h∧i≠hl∧i≠ht:=fun i hi=>by
    have a1:=hlt t.at0
    have a2:=hlt t.tab
    obtain ⟨_,_,a3,_⟩:=t.atl
    have a3:=hlt a3
    rcases lf.old i hi with q | q
    · exact ⟨(own i q).2.1,(own i q).2.2,fun e=>t.nt (e▸(own i q).1)⟩
    · omega
  obtain ⟨es,c,a,g⟩:=t.atl
  have kO:KeepF H H' O:=k.mono fun i hi => .inl (own i hi).1
  have hn1:h∉s.O:=fun q=>(own h q).2.1 rfl
  have hn2:hl∉s.O:=fun q=>(own hl q).2.2 rfl
  have hn3:ht∉s.O:=fun q=>t.nt (own ht q).1
  have hid:∀r∈l,r.id=s.id→r=s:=fun r hr e=>by
    have:=t.nd
    rw [List.Nodup,List.pairwise_map] at this
    by_cases q:r=s
    · exact q
    · exact absurd e (pw_ne (R:=fun a b:FT=>a.id≠b.id) (fun _ _ f e=>f e.symm) this r hr s hs q)
  have hdis:∀r∈l,r≠s→∀i∈r.O,i∉s.O:=fun r hr e => 
    pw_ne (R:=fun a b:FT=>∀i∈a.O,i∉b.O) (fun _ _ f i hi hj=>f i hj hi) t.dis r hr s hs e
  have hmapid:(l.map fun r=>if r.id=s.id then (⟨s.id,s.b,P,x⟩:FT) else r).map FT.id=l.map FT.id:=by
    rw [List.map_map]
    refine List.map_congr_left fun r _ => ?_
    dsimp only [Function.comp]
    split
    · rename_i e; exact e.symm
    · rfl
  refine ⟨⟨k.get t.at0 hn1,k.get t.tab hn3,⟨es,c,k.get a hn2,?_,g.nd,g.lt⟩,by rw [hmapid]; exact t.nd,t.ne,?_,?_,⟨List.mem_append_left _ t.own.1,List.mem_append_left _ t.own.2⟩,?_,?_⟩,⟨kO,fun i hi=>(List.mem_append.1 hi).elim .inl fun q=>(lf.old i q).imp (fun q=>(own i q).1) id⟩⟩
  · have:=g.rel
    unfold RelM at this ⊢
    rw [this,List.map_map]
    refine List.map_congr_left fun r hr => ?_
    dsimp only [Function.comp]
    split
    · rename_i e; rw [hid r hr e]; rfl
    · rfl
  · intro r hr
    obtain ⟨r',hr',rfl⟩:=List.mem_map.1 hr
    by_cases e:r'.id=s.id
    · rw [if_pos e]
      exact ⟨tp,fun i hi=>⟨List.mem_append_right _ hi,(hPn i hi).1,(hPn i hi).2.1⟩⟩
    · rw [if_neg e]
      have hne:r'≠s:=fun q=>e (by rw [q])
      exact ⟨(t.tx r' hr').1.keep k (hdis r' hr' hne) (fun _ h=>h),fun i hi=>⟨List.mem_append_left _ ((t.tx r' hr').2 i hi).1,((t.tx r' hr').2 i hi).2⟩⟩
  · rw [List.pairwise_map]
    refine List.Pairwise.imp_of_mem ?_ (t.dis.and (by have:=t.nd; rw [List.Nodup,List.pairwise_map] at this; exact this))
    rintro r r' hr hr' ⟨f,f2⟩ i hi hj
    have low:∀u∈l,∀i∈u.O,i < H.length:=fun u hu i hi=>t.low i ((t.tx u hu).2 i hi).1
    by_cases e:r.id=s.id <;> by_cases e':r'.id=s.id
    · exact f2 (e.trans e'.symm)
    · rw [if_pos e] at hi; rw [if_neg e'] at hj
      rcases lf.old i hi with q | q
      · exact hdis r' hr' (fun q=>e' (by rw [q])) i hj q
      · have:=low r' hr' i hj; omega
    · rw [if_neg e] at hi; rw [if_pos e'] at hj
      rcases lf.old i hj with q | q
      · exact hdis r hr (fun q=>e (by rw [q])) i hi q
      · have:=low r hr i hi; omega
    · rw [if_neg e] at hi; rw [if_neg e'] at hj
      exact f i hi hj
  · intro i hi
    rcases List.mem_append.1 hi with q | q
    · exact Nat.lt_of_lt_of_le (t.low i q) k.1
    · exact lw i q
  · intro q
    rcases List.mem_append.1 q with q | q
    · exact t.nt q
    · exact (hPn ht q).2.2 rfl
end
end Go.AM
namespace Go.AM
open Go
set_option maxRecDepth 20000
theorem re0F:refEq 0 (.s .nilP) (.s .nilP)=some true:=rfl
theorem re1F {n:Nat}:refEq 0 (.ptr (.heap n) 0) (.s .nilP)=some false:=rfl
section
variable {H H':List HObj} {O O':List Nat} {h hl ht:Nat} {pts:List Key} {l:List FT}
theorem FrG.bAt (t:FrG H O h hl ht pts l) {s:FT} (hs:s∈l):∀i∈s.O,i < H.length:=fun i hi=>t.low i ((t.tx s hs).2 i hi).1
theorem FrG.add {x:Tx1} {id:Int} (t:FrG H O h hl ht pts l) (hn:∀s∈l,s.id≠id) {es:List Entry} {c:Nat} (a:H[hl]? = some (.map es c)) (g:MapG iA FT.id ptF es c l) {s:Stp}:FrG ((H ++ [HObj.map [] 0,HObj.cells (txq (tx0 s) H.length (.s .nilS) (.s .nilS) (.s .nilM))]).set hl (HObj.map (es ++ [⟨AV.s (.int .i64 id),AV.ptr (.heap (H.length + 1)) 0,c⟩]) (c + 1))) (O ++ [H.length + 1,H.length]) h hl ht pts (l ++ [⟨id,H.length + 1,[H.length + 1,H.length],tx0 s⟩]):=by
  have l0:=hlt t.at0
  have l1:=hlt a
  have l2:=hlt t.tab
  have hnt:ht≠hl:=fun e=>t.nt (e▸t.own.2)
  refine ⟨hset t.ne.symm (happ t.at0),hset hnt.symm (happ t.tab),⟨_,_,hself (happ a),g.new (x:=(⟨id,H.length + 1,[H.length + 1,H.length],tx0 s⟩:FT))⟩,?_,t.ne,?_,?_,⟨List.mem_append_left _ t.own.1,List.mem_append_left _ t.own.2⟩,?_,?_⟩
  · rw [List.map_append,List.nodup_append]
    exact ⟨t.nd,by simp,fun i hi j hj e=>by
      obtain ⟨r,hr,rfl⟩:=List.mem_map.1 hi
      have hj:j=id:=by simpa using hj
      exact hn r hr (e.trans hj)⟩
  · intro r hr
    rcases List.mem_append.1 hr with hr | hr
    · obtain ⟨q1,q2⟩:=t.tx r hr
      refine ⟨q1.keep (l:=[hl]) ⟨by simp,fun i hi e => ?_⟩ (fun i hi e=>(q2 i hi).2.2 (by simpa using e)) (fun _ h=>h),fun i hi=>⟨List.mem_append_left _ (q2 i hi).1,(q2 i hi).2⟩⟩
      rw [List.getElem?_set_ne (fun q=>e (by rw [q]; simp)),List.getElem?_append_left hi]
    · have hr:r=_:=List.mem_singleton.1 hr
      subst hr
      refine ⟨.inl ⟨H.length,hset (show hl≠H.length + 1 by omega) (by simp),⟨⟨[],0,hset (o:=HObj.map [] 0) (by omega) (by simp),rfl,.nil,fun e h=>by cases h⟩,.nil,by simp [tx0]⟩,rfl,rfl,Nat.succ_ne_self _,by simp⟩,fun i hi=>⟨List.mem_append_right _ hi,?_⟩⟩
      have:i=H.length + 1∨i=H.length:=by simpa using hi
      omega
  · rw [List.pairwise_append]
    refine ⟨t.dis,by simp,fun r hr r' hr' i hi hj => ?_⟩
    have hr':r'=_:=List.mem_singleton.1 hr'
    subst hr'
    have:=t.bAt hr i hi
    have hj:i=H.length + 1∨i=H.length:=by simpa using hj
    omega
  · intro i hi
    rw [List.length_set,List.length_append]
    rcases List.mem_append.1 hi with q | q
    · have:=t.low i q; omega
    · have:i=H.length + 1∨i=H.length:=by simpa using q
      simp; omega
  · intro q
    rcases List.mem_append.1 q with q | q
    · exact t.nt q
    · have:ht=H.length + 1∨ht=H.length:=by simpa using q
      omega
end
theorem TxP.cell {H:List HObj} {O:List Nat} {b:Nat} {pts:List Key} {x:Tx1} (t:TxP H O b pts x):∃hw pv sv dv,H[b]? = some (.cells (txq x hw pv sv dv)):=by
  rcases t with ⟨hw,t⟩ | ⟨hw,hs,hp,t⟩
  · exact ⟨_,_,_,_,t.atb⟩
  · exact ⟨_,_,_,_,t.atb⟩
end Go.AM
namespace Go.AM
open Go
set_option maxRecDepth 20000
def StNewS (C:CallW) (f:FuncId):Prop:=∀S H (K:AV→St→Prop),(∀H' h O,StA H' O h []→Left H H' [] O→K (.ptr (.heap h) 0) ⟨S,H'⟩)→C (.fn f) [] ⟨S,H⟩ K
theorem store_New_spec {C:CallW} (P:Program):∀S H (K:AV→St→Prop),(∀H' h O,StA H' O h []→Left H H' [] O→K (.ptr (.heap h) 0) ⟨S,H'⟩)→runL C P Cz2z [] ⟨S,H⟩ K:=by
  intro S H K hK
  simp only [Cz2z,A_,simprocAttr,ne_eq,Uz5d.1]
  refine hK _ _ [H.length,H.length + 1] ⟨H.length,[],{ at0 := ?_,map:=⟨[],0,?_,rfl,.nil,fun e h=>(by cases h)⟩,ch:=fun c hc=>(by cases hc),nk := .nil,nb := .nil,ok:=fun c hc=>(by cases hc),own:=⟨?_,?_,fun c hc=>(by cases hc)⟩,low:=fun i hi => ?_ },rfl⟩ ⟨.app,fun i hi => ?_⟩
  · simp
  · simp
  · simp
  · simp
  · simp at hi ⊢; omega
  · simp at hi; omega
def OfS (C:CallW) (f:FuncId):Prop:=∀(h hm:Nat) (l:List CH) (O:List Nat) (k:Key) S H (K:AV→St→Prop),StG H O h hm l→(∀c,getB CH.k l k=some c→K (.ptr (.heap c.b) 0) ⟨S,H⟩)→(getB CH.k l k=none→K (.ptr (.heap H.length) 0) ⟨S,H ++ [.cells [.s .nilS]]⟩)→C (.fn f) [.ptr (.heap h) 0,.agg (bs k.b)] ⟨S,H⟩ K
set_option maxHeartbeats 2000000 in
theorem store_of_spec {C:CallW} (P:Program) {c:Nat→FuncId} (h0:ChNewS C (c 0)):∀(h hm:Nat) (l:List CH) (O:List Nat) (k:Key) S H (K:AV→St→Prop),StG H O h hm l→(∀c,getB CH.k l k=some c→K (.ptr (.heap c.b) 0) ⟨S,H⟩)→(getB CH.k l k=none→K (.ptr (.heap H.length) 0) ⟨S,H ++ [.cells [.s .nilS]]⟩)→runL C P (Cz17 c) [.ptr (.heap h) 0,.agg (bs k.b)] ⟨S,H⟩ K:=by
  intro h hm l O k S H K t k1 k2
  have a0:=t.at0
  have lk:=fun S'=>lookS (S:=S') t k false
  cases hg:getB CH.k l k with
  | none =>
    simp only [hg,lookR,Bool.false_eq_true,if_false] at lk
    simp only [Cz17,A_,simprocAttr,ne_eq,(Uz1w _).1,CHK_,Nat.reduceBEq,a0,lk,re0F]
    refine h0 _ _ _ ?_
    simp only [Cz17,A_,simprocAttr,ne_eq,(Uz1w _).1,CHK_,Nat.reduceBEq]
    exact k2 hg
  | some c =>
    simp only [hg,lookR,Bool.false_eq_true,if_false,chP] at lk
    simp only [Cz17,A_,simprocAttr,ne_eq,(Uz1w _).1,CHK_,Nat.reduceBEq,a0,lk,re1F]
    exact k1 c hg
def StOfR (C:CallW) (f:FuncId):Prop:=∀(h:Nat) (Q:Sto) (O:List Nat) (k:Key) S H (K:AV→St→Prop),StA H O h Q→(∀b G,(H ++ G)[b]? = some (.cells [chK (ofQ Q k)])→K (.ptr (.heap b) 0) ⟨S,H ++ G⟩)→C (.fn f) [.ptr (.heap h) 0,.agg (bs k.b)] ⟨S,H⟩ K
theorem stOfR_of {C:CallW} {f:FuncId} (h0:OfS C f):StOfR C f:=by
  intro h Q O k S H K t hK
  obtain ⟨hm,l,t,rfl⟩:=t
  refine h0 h hm l O k S H K t (fun c hg => ?_) fun hg => ?_
  · have:=hK c.b [] (by rw [List.append_nil,ofQ_some hg]; exact t.ch c (getB_some_iff hg).1)
    rwa [List.append_nil] at this
  · exact hK H.length [.cells [.s .nilS]] (by rw [ofQ_none hg]; simp [chK])
theorem ofQ_ok {H:List HObj} {O:List Nat} {h:Nat} {Q:Sto} (t:StA H O h Q) (k:Key):SorV (ofQ Q k)∧(ofQ Q k).length≤50∧∀v∈ofQ Q k,okV v=true:=by
  obtain ⟨hm,l,t,rfl⟩:=t
  cases hg:getB CH.k l k with
  | none=>rw [ofQ_none hg]; exact ⟨.nil,by simp,fun v hv=>by cases hv⟩
  | some c =>
    rw [ofQ_some hg]
    have:=t.ok c (getB_some_iff hg).1
    exact ⟨this.2.1,this.2.2.1,this.2.2.2⟩
def getS (Q:Sto) (k:Key) (s:Stp):List UInt8×Bool:=match atV (ofQ Q k) s with
  | some v=>if v.gone=true then ([],false) else (v.val,true)
  | none=>([],false)
def newS (Q:Sto) (k:Key):Stp×Bool:=match (ofQ Q k).getLast? with
  | some v=>(v.st,true)
  | none=>(⟨0,0⟩,false)
def StGetS (C:CallW) (f:FuncId):Prop:=∀(h:Nat) (Q:Sto) (O:List Nat) (k:Key) (s:Stp) S H (K:AV→St→Prop),StA H O h Q→(∀G,K (.tup [.s (.str (getS Q k s).1),.s (.bool (getS Q k s).2)]) ⟨S,H ++ G⟩)→C (.fn f) [.ptr (.heap h) 0,.agg (bs k.b),.agg (stc s)] ⟨S,H⟩ K
def StNewestS (C:CallW) (f:FuncId):Prop:=∀(h:Nat) (Q:Sto) (O:List Nat) (k:Key) S H (K:AV→St→Prop),StA H O h Q→(∀G,K (.tup [.agg (stc (newS Q k).1),.s (.bool (newS Q k).2)]) ⟨S,H ++ G⟩)→C (.fn f) [.ptr (.heap h) 0,.agg (bs k.b)] ⟨S,H⟩ K
theorem store_Newest_spec {C:CallW} (P:Program) {c:Nat→FuncId} (h0:StOfR C (c 0)) (h1:PNewS C (c 1)):∀(h:Nat) (Q:Sto) (O:List Nat) (k:Key) S H (K:AV→St→Prop),StA H O h Q→(∀G,K (.tup [.agg (stc (newS Q k).1),.s (.bool (newS Q k).2)]) ⟨S,H ++ G⟩)→runL C P (Czn c) [.ptr (.heap h) 0,.agg (bs k.b)] ⟨S,H⟩ K:=by
  intro h Q O k S H K t hK
  have ok:=ofQ_ok t k
  simp only [Czn,A_,simprocAttr,ne_eq,(Uz13 _).1,CHK_,Nat.reduceBEq]
  refine h0 h Q O k _ _ _ t fun b G hb => ?_
  simp only [Czn,A_,simprocAttr,ne_eq,(Uz13 _).1,CHK_,Nat.reduceBEq]
  refine h1 b _ _ _ _ _ hb (.inl rfl) (by omega) ?_
  have hK:=hK G
  unfold newS at hK
  cases hl:(ofQ Q k).getLast? with
  | none =>
    rw [hl] at hK
    simp only [verc,ver0,Option.getD_none,Option.isSome_none,Czn,A_,simprocAttr,ne_eq,(Uz13 _).1,CHK_,Nat.reduceBEq]
    exact hK
  | some v =>
    rw [hl] at hK
    simp only [verc,Option.getD_some,Option.isSome_some,Czn,A_,simprocAttr,ne_eq,(Uz13 _).1,CHK_,Nat.reduceBEq]
    exact hK
set_option maxHeartbeats 4000000 in
theorem store_Get_spec {C:CallW} (P:Program) {c:Nat→FuncId} (h0:StOfR C (c 0)) (h1:PAtS C (c 1)):∀(h:Nat) (Q:Sto) (O:List Nat) (k:Key) (s:Stp) S H (K:AV→St→Prop),StA H O h Q→(∀G,K (.tup [.s (.str (getS Q k s).1),.s (.bool (getS Q k s).2)]) ⟨S,H ++ G⟩)→runL C P (Cza c) [.ptr (.heap h) 0,.agg (bs k.b),.agg (stc s)] ⟨S,H⟩ K:=by
  intro h Q O k s S H K t hK
  have ok:=ofQ_ok t k
  have h1':=fun b X vs=>h1 b X vs s
  simp only [stc] at h1'
  simp only [stc,Cza,A_,simprocAttr,ne_eq,(Uzd _).1,CHK_,Nat.reduceBEq]
  unfold getS at hK
  refine ⟨h0 h Q O k _ _ _ t fun b G hb => ?_,h0 h Q O k _ _ _ t fun b G hb => ?_⟩
  · simp only [stc,Cza,A_,simprocAttr,ne_eq,(Uzd _).1,CHK_,Nat.reduceBEq]
    refine ⟨h1' b _ _ _ _ _ hb (.inl rfl) ok.1 (by omega) ?_,h1' b _ _ _ _ _ hb (.inl rfl) ok.1 (by omega) ?_⟩
    all_goals
      have hK:=hK G
      cases hv:atV (ofQ Q k) s with
      | none =>
        rw [hv] at hK
        simp only [stc,verc,ver0,Option.getD_none,Option.isSome_none,Cza,A_,simprocAttr,ne_eq,(Uzd _).1,CHK_,Nat.reduceBEq]
        exact hK
      | some v =>
        simp only [hv] at hK
        simp only [stc,verc,Option.getD_some,Option.isSome_some,Cza,A_,simprocAttr,ne_eq,(Uzd _).1,CHK_,Nat.reduceBEq]
        cases hg:v.gone with
        | true => 
          simp only [hg,if_true] at hK
          simp only [stc,verc,hg,Cza,A_,simprocAttr,ne_eq,(Uzd _).1,CHK_,Nat.reduceBEq]
          exact hK
        | false =>
          simp only [hg,Bool.false_eq_true,if_false] at hK
          simp only [stc,verc,hg,Cza,A_,simprocAttr,ne_eq,(Uzd _).1,CHK_,Nat.reduceBEq]
          exact hK
  · simp only [stc,Cza,A_,simprocAttr,ne_eq,(Uzd _).1,CHK_,Nat.reduceBEq]
    refine h1' b _ _ _ _ _ hb (.inl rfl) ok.1 (by omega) ?_
    have hK:=hK G
    cases hv:atV (ofQ Q k) s with
    | none =>
      rw [hv] at hK
      simp only [stc,verc,ver0,Option.getD_none,Option.isSome_none,Cza,A_,simprocAttr,ne_eq,(Uzd _).1,CHK_,Nat.reduceBEq]
      exact hK
    | some v =>
      simp only [hv] at hK
      simp only [stc,verc,Option.getD_some,Option.isSome_some,Cza,A_,simprocAttr,ne_eq,(Uzd _).1,CHK_,Nat.reduceBEq]
      cases hg:v.gone with
      | true => 
        simp only [hg,if_true] at hK
        simp only [stc,verc,hg,Cza,A_,simprocAttr,ne_eq,(Uzd _).1,CHK_,Nat.reduceBEq]
        exact hK
      | false =>
        simp only [hg,Bool.false_eq_true,if_false] at hK
        simp only [stc,verc,hg,Cza,A_,simprocAttr,ne_eq,(Uzd _).1,CHK_,Nat.reduceBEq]
        exact hK
end Go.AM
namespace Go.AM
open Go
open AV renaming undef → uu
set_option maxRecDepth 20000
def roomF (Q:Sto) (n:Nat):List Wr→Bool
  | []=>decide (n≤200)
  | w :: l=>if 50≤(ofQ Q w.key).length then false else roomF Q (if ofQ Q w.key=[] then n + 1 else n) l
def roomB (Q:Sto) (l:List Wr):Bool:=roomF Q Q.length l
theorem ofQ_nil {H:List HObj} {O:List Nat} {h hm:Nat} {l:List CH} (t:StG H O h hm l) {k:Key}:ofQ (l.map CH.p) k=[]↔getB CH.k l k=none:=by
  cases hg:getB CH.k l k with
  | none=>simp [ofQ_none hg]
  | some c=>simp [ofQ_some hg,(t.ok c (getB_some_iff hg).1).1]
def RoomS (C:CallW) (f:FuncId):Prop:=∀(h:Nat) (Q:Sto) (O:List Nat) (l:List Wr) S H (K:AV→St→Prop),StA H O h Q→Q.length≤1000→l.length≤1000→(∀G,K (.bool (roomB Q l)) ⟨S,H ++ G⟩)→C (.fn f) [.ptr (.heap h) 0,lstW l] ⟨S,H⟩ K
set_option maxHeartbeats 8000000 in
theorem store_room_spec {C:CallW} (hC:LeC C C) (P:Program) {c:Nat→FuncId} (h0:StOfR C (c 0)) (h1:PLenS C (c 1)):∀(h:Nat) (Q:Sto) (O:List Nat) (l:List Wr) S H (K:AV→St→Prop),StA H O h Q→Q.length≤1000→l.length≤1000→(∀G,K (.bool (roomB Q l)) ⟨S,H ++ G⟩)→runL C P (Cz1j c) [.ptr (.heap h) 0,lstW l] ⟨S,H⟩ K:=by
  rintro h _ O l S H K ⟨hm,cl,t,rfl⟩ hq hl hK
  have a0:=t.at0
  have ln:=fun S'=>lenS (S:=S') t
  have tA:StA H O h (cl.map CH.p):=⟨hm,cl,t,rfl⟩
  rw [List.length_map] at hq
  simp only [lstW,Cz1j,A_,simprocAttr,ne_eq,(Uzi _).1,CHK_,Nat.reduceBEq,a0,ln]
  refine loop_rule hC (α:=Nat×Nat×List HObj) (fun a=>l.length - a.1) (fun a=>[.ptr (.heap h) 0,uu,uu,uu,uu,.s (.int .i64 a.2.1),uu,uu,uu,uu,uu,uu,uu,.list .sh 18 (l.map wA),.s (.int .i64 l.length),.s (.int .i64 a.1),uu,uu,uu,uu,uu,uu,uu,uu,uu,uu,uu,uu,uu,uu,uu,uu,uu,uu,uu,uu,uu,uu]) (fun _=>S) (fun a=>H ++ a.2.2) (fun a=>a.1≤l.length∧a.2.1≤cl.length + a.1∧roomB (cl.map CH.p) l=roomF (cl.map CH.p) a.2.1 (l.drop a.1)) (0,cl.length,[]) ⟨by simp,by simp,by simp [roomB]⟩ rfl (by simp) (by simp) (fun a _=>by simp [AV.under,AV.under.go]) ?_
  rintro ⟨i,n,G⟩ ⟨hi,hn,hinv⟩ ih
  dsimp only at hi hn hinv
  by_cases h16:i < l.length
  · have hlt:((i:Int) < (l.length:Int)):=by omega
    have hw:IntKind.i64.wrap ((i:Int) + 1)=(i:Int) + 1:=wrap_i64 (by omega) (by omega)
    have hw2:IntKind.i64.wrap ((n:Int) + 1)=(n:Int) + 1:=wrap_i64 (by omega) (by omega)
    have t':=t.app (G:=G)
    have a0':=t'.at0
    have lk:=fun S'=>lookS (S:=S') t' (l[i]).key false
    have ok:=ofQ_ok tA (l[i]).key
    have hnil:=ofQ_nil t (k:=(l[i]).key)
    rw [List.drop_eq_getElem_cons h16,roomF] at hinv
    cases hg:getB CH.k cl (l[i]).key with
    | none =>
      rw [if_neg (by rw [hnil.2 hg]; simp),if_pos (hnil.2 hg)] at hinv
      simp only [hg,lookR,Bool.false_eq_true,if_false] at lk
      simp only [A_,simprocAttr,ne_eq,(Uzi _).1,CHK_,Nat.reduceBEq,hlt,h16,a0',lk,re0F,hw2]
      refine h0 h _ O (l[i]).key _ _ _ tA.app fun b G' hb => ?_
      simp only [A_,simprocAttr,ne_eq,(Uzi _).1,CHK_,Nat.reduceBEq]
      rw [List.append_assoc] at hb
      refine h1 b _ _ _ _ _ hb (.inl rfl) ?_
      have hlt2:¬(50:Int)≤(((ofQ (cl.map CH.p) (l[i]).key).length:Nat):Int):=by rw [hnil.2 hg]; simp
      simp only [A_,simprocAttr,ne_eq,(Uzi _).1,CHK_,Nat.reduceBEq,hlt2,hw]
      exact ih (i + 1,n + 1,G ++ G') _ _ _ (by show l.length - (i + 1) < l.length - i; omega) ⟨by show i + 1≤l.length; omega,by show n + 1≤cl.length + (i + 1); omega,hinv⟩ rfl (by simp) (by simp)
    | some x =>
      have hne:¬ofQ (cl.map CH.p) (l[i]).key=[]:=by rw [hnil,hg]; simp
      rw [if_neg hne] at hinv
      simp only [hg,lookR,Bool.false_eq_true,if_false,chP] at lk
      simp only [A_,simprocAttr,ne_eq,(Uzi _).1,CHK_,Nat.reduceBEq,hlt,h16,a0',lk,re1F]
      refine h0 h _ O (l[i]).key _ _ _ tA.app fun b G' hb => ?_
      simp only [A_,simprocAttr,ne_eq,(Uzi _).1,CHK_,Nat.reduceBEq]
      rw [List.append_assoc] at hb
      refine h1 b _ _ _ _ _ hb (.inl rfl) ?_
      by_cases h5:50≤(ofQ (cl.map CH.p) (l[i]).key).length
      · have hlt2:(50:Int)≤(((ofQ (cl.map CH.p) (l[i]).key).length:Nat):Int):=by omega
        rw [if_pos h5] at hinv
        rw [hinv] at hK
        simp only [A_,simprocAttr,ne_eq,(Uzi _).1,CHK_,Nat.reduceBEq,hlt2]
        exact hK (G ++ G')
      · have hlt2:¬(50:Int)≤(((ofQ (cl.map CH.p) (l[i]).key).length:Nat):Int):=by omega
        rw [if_neg h5] at hinv
        simp only [A_,simprocAttr,ne_eq,(Uzi _).1,CHK_,Nat.reduceBEq,hlt2,hw]
        exact ih (i + 1,n,G ++ G') _ _ _ (by show l.length - (i + 1) < l.length - i; omega) ⟨by show i + 1≤l.length; omega,by show n≤cl.length + (i + 1); omega,hinv⟩ rfl (by simp) (by simp)
  · have hlt:¬((i:Int) < (l.length:Int)):=by omega
    rw [List.drop_of_length_le (by omega),roomF] at hinv
    rw [hinv] at hK
    have e:decide ((n:Int)≤200)=decide (n≤200):=by by_cases h:n≤200 <;> simp [h] <;> omega
    simp only [A_,simprocAttr,ne_eq,(Uzi _).1,CHK_,Nat.reduceBEq,hlt,e]
    exact hK _
end Go.AM
namespace Go.AM
open Go
open AV renaming undef → uu
set_option maxRecDepth 20000
def verW (s:Stp) (w:Wr):Ver:=⟨s,w.val,w.gone⟩
def stpA (s:Stp) (Q:Sto) (w:Wr):Sto:=setQ Q w.key (insV (ofQ Q w.key) (verW s w))
def appQ (Q:Sto) (s:Stp) (l:List Wr):Int×Sto :=
  if (goodS s && (decide (1≤l.length) && decide (l.length≤16)) && sgood [] l)=false then (1,Q) else
  if (l.any fun w=>hasV (ofQ Q w.key) s)=true then (5,Q) else
  if roomB Q l=false then (6,Q) else (0,l.foldl (stpA s) Q)
def ApplyS (C:CallW) (f:FuncId):Prop:=∀(h:Nat) (Q:Sto) (O:List Nat) (s:Stp) (l:List Wr) S H (K:AV→St→Prop),StA H O h Q→Q.length≤1000→l.length≤1000→(∀H' O',StA H' O' h (appQ Q s l).2→Left H H' O O'→K (.s (.int .i64 (appQ Q s l).1)) ⟨S,H'⟩)→C (.fn f) [.ptr (.heap h) 0,.agg (stc s),lstW l] ⟨S,H⟩ K
theorem StG.updSame {H:List HObj} {O:List Nat} {h hm:Nat} {l:List CH} (t:StG H O h hm l) {c:CH} (hc:c∈l):∃es cc,(∀S:List (List AV),updateL (.leaf lk) (.map hm) (.agg (bs c.k.b)) (.ptr (.heap c.b) 0) ⟨S,H⟩=some ⟨S,H.set hm (.map es cc)⟩)∧StG (H.set hm (.map es cc)) O h hm l:=by
  obtain ⟨es0,c0,a,g⟩:=t.map
  obtain ⟨es,cc,q1,q2⟩:=MapG.upd keyK_key (x:=c) a g t.nk rfl
  rw [putM_same t.nk hc] at q2
  have hms:∀{j:Nat} {cs:List AV},H[j]? = some (.cells cs)→hm≠j:=fun e q=>by
    subst q
    rw [a] at e; cases e
  exact ⟨es,cc,q1,⟨hset (hms t.at0) t.at0,⟨es,cc,hself a,q2⟩,fun z hz=>hset (hms (t.ch z hz)) (t.ch z hz),t.nk,t.nb,t.ok,t.own,fun i hi=>by rw [List.length_set]; exact t.low i hi⟩⟩
theorem mem_putM {β κ:Type} [DecidableEq κ] {kp:β→κ} {l:List β} {x:β}:x∈putM kp l x:=by
  unfold putM
  cases hg:getB kp l (kp x) with
  | none=>simp
  | some y=>exact List.mem_map.2 ⟨y,(getB_some_iff hg).1,if_pos (getB_some_iff hg).2⟩
theorem roomF_lt {Q:Sto}:∀{l:List Wr} {n:Nat},roomF Q n l=true→∀w∈l,(ofQ Q w.key).length < 50
  | [],n,_,w,hw=>by cases hw
  | x :: l,n,h,w,hw=>by
    unfold roomF at h
    split at h
    · cases h
    · rcases List.mem_cons.1 hw with rfl | hw
      · omega
      · exact roomF_lt h w hw
theorem sgood_okV:∀(l:List Wr) (seen:List Key) {s:Stp},goodS s=true→sgood seen l=true→∀w∈l,okV (verW s w)=true
  | [],seen,s,_,_,w,hw=>by cases hw
  | x :: l,seen,s,h0,h,w,hw=>by
    unfold sgood at h
    split at h
    · cases h
    split at h
    · cases h
    split at h
    · cases h
    split at h
    · cases h
    rename_i h3 h4
    rcases List.mem_cons.1 hw with rfl | hw
    · unfold okV verW
      simp only [h0,Bool.true_and]
      have:w.val.length≤200:=by omega
      cases hg:w.gone <;> simp [this]
      simp [hg] at h4
      exact h4
    · exact sgood_okV l _ h0 h w hw
theorem ofQ_setQ {Q:Sto} {k k':Key} {vs:List Ver}:ofQ (setQ Q k vs) k'=if k'=k then vs else ofQ Q k':=by
  unfold setQ
  cases hf:Q.find? fun p=>decide (p.1=k) with
  | none =>
    unfold ofQ
    rw [List.find?_append]
    by_cases e:k'=k
    · subst e
      rw [hf]
      simp
    · cases h2:Q.find? fun p=>decide (p.1=k') with
      | none=>simp [e,Ne.symm e]
      | some p=>simp [e]
  | some p0 =>
    dsimp only
    by_cases e:k'=k
    · subst e
      rw [if_pos rfl]
      have hf':∃p,Q.find? (fun p=>decide (p.1=k'))=some p:=⟨_,hf⟩
      clear hf p0
      induction Q with
      | nil=>obtain ⟨p,hp⟩:=hf'; cases hp
      | cons x Q ih =>
        obtain ⟨p,hf⟩:=hf'
        unfold ofQ
        rw [List.map_cons]
        by_cases h:x.1=k'
        · simp [h]
        · rw [List.find?_cons] at hf
          simp only [h,decide_false] at hf
          have:=ih ⟨_,hf⟩
          unfold ofQ at this
          simp only [h,if_false,List.find?_cons,decide_false]
          exact this
    · rw [if_neg e]
      unfold ofQ
      clear hf
      induction Q with
      | nil=>rfl
      | cons x Q ih =>
        rw [List.map_cons,List.find?_cons,List.find?_cons]
        by_cases h:x.1=k
        · have h2:¬x.1=k':=fun q=>e (q▸h)
          have h3:¬k=k':=fun q=>e q.symm
          simp only [h,if_true,h3,decide_false]
          exact ih
        · simp only [h,if_false]
          by_cases h2:x.1=k'
          · simp [h2]
          · simp only [h2,decide_false]; exact ih
theorem tk1 {α:Type} {S:List α} {a:α}:(S ++ [a]).take (S.length + 1)=S ++ [a]:=by rw [List.take_of_length_le (by simp)]
theorem tk2 {α:Type} {S:List α} {a b:α}:(S ++ [a,b]).take (S.length + 1)=S ++ [a]:=by
  rw [show S ++ [a,b]=(S ++ [a]) ++ [b] by simp,List.take_append_of_le_length (by simp),List.take_of_length_le (by simp)]
set_option maxHeartbeats 16000000 in
theorem store_Apply_spec {C:CallW} (hC:LeC C C) (P:Program) {c:Nat→FuncId} (h0:∀s:Stp,FnS C (c 0) [.agg (stc s)] (.bool (goodS s))) (h1:∀l:List Wr,FnS C (c 1) [lstW l] (.bool (decide (1≤l.length) && decide (l.length≤16)))) (h2:GoodWS C (c 2)) (h3:OfS C (c 3)) (h4:PHasS C (c 4)) (h5:RoomS C (c 5)) (h6:PPutS C (c 6)):∀(h:Nat) (Q:Sto) (O:List Nat) (s:Stp) (l:List Wr) S H (K:AV→St→Prop),StA H O h Q→Q.length≤1000→l.length≤1000→(∀H' O',StA H' O' h (appQ Q s l).2→Left H H' O O'→K (.s (.int .i64 (appQ Q s l).1)) ⟨S,H'⟩)→runL C P (Cze c) [.ptr (.heap h) 0,.agg (stc s),lstW l] ⟨S,H⟩ K:=by
  intro h Q O s l S H K t hq hl hK
  have h3':=stOfR_of h3
  have h1':=h1 l
  simp only [lstW] at h1'
  simp only [lstW,Cze,A_,simprocAttr,ne_eq,(Uz2 _).1,CHK_,Nat.reduceBEq]
  refine h0 s _ _ _ ?_
  cases e1:goodS s with
  | false =>
    have ea:appQ Q s l=(1,Q):=by simp [appQ,e1]
    rw [ea] at hK
    simp only [e1,Cze,A_,simprocAttr,ne_eq,(Uz2 _).1,CHK_,Nat.reduceBEq]
    exact hK _ _ t .refl
  | true =>
    simp only [e1,Cze,A_,simprocAttr,ne_eq,(Uz2 _).1,CHK_,Nat.reduceBEq]
    refine h1' _ _ _ ?_
    cases e2:(decide (1≤l.length) && decide (l.length≤16)) with
    | false =>
      have ea:appQ Q s l=(1,Q):=by unfold appQ; rw [e1,e2]; rfl
      rw [ea] at hK
      simp only [Cze,A_,simprocAttr,ne_eq,(Uz2 _).1,CHK_,Nat.reduceBEq]
      exact hK _ _ t .refl
    | true =>
      simp only [Cze,A_,simprocAttr,ne_eq,(Uz2 _).1,CHK_,Nat.reduceBEq]
      refine h2 l _ _ _ (by omega) fun G0 => ?_
      cases e3:sgood [] l with
      | false =>
        have ea:appQ Q s l=(1,Q):=by unfold appQ; rw [e1,e2,e3]; rfl
        rw [ea] at hK
        simp only [Cze,A_,simprocAttr,ne_eq,(Uz2 _).1,CHK_,Nat.reduceBEq]
        exact hK _ _ t.app .app
      | true =>
        simp only [Cze,A_,simprocAttr,ne_eq,(Uz2 _).1,CHK_,Nat.reduceBEq]
        refine loop_rule hC (α:=Nat×List HObj) (fun a=>l.length - a.1) (fun a=>[.ptr (.heap h) 0,.undef,.list .sh 18 (l.map wA),.undef,.ptr (.stk S.length) 0,uu,uu,uu,uu,uu,uu,uu,uu,uu,uu,uu,uu,uu,uu,uu,uu,uu,uu,uu,uu,.list .sh 18 (l.map wA),.s (.int .i64 l.length),.s (.int .i64 a.1),uu,uu,uu,uu,uu,uu,uu,uu,uu,uu,uu,uu,uu,uu,uu,uu,uu,uu,uu,uu,uu,uu,uu,uu,uu,uu,uu,uu,uu,uu,uu,uu,uu,uu,uu,uu,uu,uu,uu,uu]) (fun _=>S ++ [stc s]) (fun a=>H ++ a.2) (fun a=>a.1≤l.length∧(l.any fun w=>hasV (ofQ Q w.key) s)=((l.drop a.1).any fun w=>hasV (ofQ Q w.key) s)) (0,G0) ⟨by simp,by simp⟩ rfl tk1 rfl (fun a _=>by simp [AV.under,AV.under.go]) ?_
        rintro ⟨i,G⟩ ⟨hi,hinv⟩ ih
        dsimp only at hi hinv
        by_cases h16:i < l.length
        · have hlt:((i:Int) < (l.length:Int)):=by omega
          have hw:IntKind.i64.wrap ((i:Int) + 1)=(i:Int) + 1:=wrap_i64 (by omega) (by omega)
          have ok:=ofQ_ok t (l[i]).key
          rw [List.drop_eq_getElem_cons h16,List.any_cons] at hinv
          simp only [A_,simprocAttr,ne_eq,(Uz2 _).1,CHK_,Nat.reduceBEq,hlt,h16]
          refine h3' h Q O (l[i]).key _ _ _ t.app fun b G' hb => ?_
          simp only [A_,simprocAttr,ne_eq,(Uz2 _).1,CHK_,Nat.reduceBEq]
          rw [List.append_assoc] at hb
          refine h4 b _ _ _ _ _ _ hb (.inl rfl) ok.1 (by omega) ?_
          cases e4:hasV (ofQ Q (l[i]).key) s with
          | true =>
            rw [e4,Bool.true_or] at hinv
            have ea:appQ Q s l=(5,Q):=by unfold appQ; rw [e1,e2,e3,hinv]; rfl
            rw [ea] at hK
            simp only [A_,simprocAttr,ne_eq,(Uz2 _).1,CHK_,Nat.reduceBEq]
            exact hK _ _ t.app .app
          | false =>
            rw [e4,Bool.false_or] at hinv
            simp only [A_,simprocAttr,ne_eq,(Uz2 _).1,CHK_,Nat.reduceBEq,hw]
            exact ih (i + 1,G ++ G') _ _ _ (by show l.length - (i + 1) < l.length - i; omega) ⟨by show i + 1≤l.length; omega,hinv⟩ rfl tk2 rfl
        · have hlt:¬((i:Int) < (l.length:Int)):=by omega
          rw [List.drop_of_length_le (by omega),List.any_nil] at hinv
          simp only [A_,simprocAttr,ne_eq,(Uz2 _).1,CHK_,Nat.reduceBEq,hlt]
          refine h5 h Q O l _ _ _ t.app hq hl fun G2 => ?_
          cases e5:roomB Q l with
          | false =>
            have ea:appQ Q s l=(6,Q):=by unfold appQ; rw [e1,e2,e3,hinv,e5]; rfl
            rw [ea] at hK
            simp only [A_,simprocAttr,ne_eq,(Uz2 _).1,CHK_,Nat.reduceBEq]
            exact hK _ _ t.app .app
          | true =>
            have ea:appQ Q s l=(0,l.foldl (stpA s) Q):=by unfold appQ; rw [e1,e2,e3,hinv,e5]; rfl
            rw [ea] at hK
            simp only [A_,simprocAttr,ne_eq,(Uz2 _).1,CHK_,Nat.reduceBEq]
            have hnd:=(sgood_split l [] e3).1
            have hlen:=roomF_lt e5
            have hokv:=sgood_okV l [] e1 e3
            refine loop_rule hC (α:=Nat×List HObj×List Nat) (fun a=>l.length - a.1) (fun a=>[.ptr (.heap h) 0,uu,uu,uu,.ptr (.stk S.length) 0,uu,uu,uu,uu,uu,uu,uu,uu,uu,uu,uu,uu,uu,uu,uu,uu,uu,uu,uu,uu,uu,uu,uu,uu,uu,uu,uu,uu,uu,uu,uu,uu,uu,uu,uu,uu,uu,.list .sh 18 (l.map wA),.s (.int .i64 l.length),.s (.int .i64 a.1),uu,uu,uu,uu,uu,uu,uu,uu,uu,uu,uu,uu,uu,uu,uu,uu,uu,uu,uu,uu,uu,uu,uu]) (fun _=>S ++ [stc s]) (fun a=>a.2.1) (fun a=>a.1≤l.length∧Left H a.2.1 O a.2.2∧∃Q',StA a.2.1 a.2.2 h Q'∧l.foldl (stpA s) Q=(l.drop a.1).foldl (stpA s) Q'∧∀w∈l.drop a.1,ofQ Q' w.key=ofQ Q w.key) (0,_,O) ⟨by simp,.app,Q,t.app,by simp,fun _ _=>rfl⟩ rfl tk1 rfl (fun a _=>by simp [AV.under,AV.under.go]) ?_
            rintro ⟨i,Hx,Ox⟩ ⟨hi,hleft,Qx,tx,hfold,hsame⟩ ih
            dsimp only at hi hleft tx hfold hsame
            by_cases h17:i < l.length
            · have hlt:((i:Int) < (l.length:Int)):=by omega
              have hw:IntKind.i64.wrap ((i:Int) + 1)=(i:Int) + 1:=wrap_i64 (by omega) (by omega)
              have ok:=ofQ_ok t (l[i]).key
              have hmem:l[i]∈l:=List.getElem_mem h17
              have hvx:=hsame l[i] (by rw [List.drop_eq_getElem_cons h17]; exact List.mem_cons_self)
              have hhas:hasV (ofQ Q (l[i]).key) s=false:=by
                have:=List.any_eq_false.1 hinv l[i] hmem
                simpa using this
              have hput:putV (ofQ Qx (l[i]).key) (verW s l[i])=(0,insV (ofQ Q (l[i]).key) (verW s l[i])):=by
                rw [hvx]
                unfold putV
                have:=hlen _ hmem
                rw [if_neg (by rw [hokv _ hmem]; simp),if_neg (by show ¬hasV _ s=true; rw [hhas]; simp),if_neg (by omega)]
              have hch:ChOK (insV (ofQ Q (l[i]).key) (verW s l[i])):=by
                refine ⟨fun e => ?_,ins_sor ok.1 hhas,?_,fun v hv => ?_⟩
                · have:=congrArg List.length e; rw [ins_length] at this; simp at this
                · rw [ins_length]; have:=hlen _ hmem; omega
                · unfold insV at hv
                  rcases List.mem_append.1 hv with hv | hv
                  · exact ok.2.2 v (List.mem_of_mem_take hv)
                  · rcases List.mem_cons.1 hv with rfl | hv
                    · exact hokv _ hmem
                    · exact ok.2.2 v (List.mem_of_mem_drop hv)
              rw [List.drop_eq_getElem_cons h17,List.foldl_cons] at hfold
              have hstp:stpA s Qx l[i]=setQ Qx (l[i]).key (insV (ofQ Q (l[i]).key) (verW s l[i])):=by unfold stpA; rw [hvx]
              have hsame':∀w∈l.drop (i + 1),ofQ (stpA s Qx l[i]) w.key=ofQ Q w.key:=fun w hw=>by
                rw [hstp,ofQ_setQ]
                have hne:w.key≠(l[i]).key:=by
                  obtain ⟨j,hj,rfl⟩:=List.mem_iff_getElem.1 hw
                  rw [List.getElem_drop]
                  intro e
                  rw [List.length_drop] at hj
                  have:=List.pairwise_iff_getElem.1 hnd i (i + 1 + j) (by simpa using h17) (by simp; omega) (by omega)
                  simp at this
                  exact this e.symm
                rw [if_neg hne]
                exact hsame w (by rw [List.drop_eq_getElem_cons h17]; exact List.mem_cons_of_mem _ hw)
              obtain ⟨hm,cl,tg,rfl⟩:=tx
              simp only [A_,simprocAttr,ne_eq,(Uz2 _).1,CHK_,Nat.reduceBEq,hlt,h17]
              refine h3 h hm cl Ox (l[i]).key _ _ _ tg (fun y hy => ?_) fun hn => ?_
              · have hcm:=getB_some_iff hy
                rw [ofQ_some hy] at hput hvx
                have hcx:=tg.ch y hcm.1
                have h6':=h6 y.b y.vs (verW s l[i]) (S ++ [stc s,wc l[i]]) Hx
                rw [hput] at h6'
                have ts:=tg.setc hcm.1 hch
                have a0:=ts.at0
                obtain ⟨es,cc,up,tu⟩:=ts.updSame mem_putM
                simp only [hcm.2] at up
                have hq':(putM CH.k cl { y with vs:=insV (ofQ Q (l[i]).key) (verW s l[i]) }).map CH.p=stpA s (cl.map CH.p) l[i]:=by
                  rw [hstp,←hcm.2]
                  exact (setQ_put cl ⟨y.k,y.b,_⟩).symm
                have hl2:=(hleft.trans (.set (o:=HObj.cells [chK (insV (ofQ Q (l[i]).key) (verW s l[i]))]) (tg.own.2.2 y hcm.1))).trans (.set (o := .map es cc) tg.own.2.1)
                simp only [verc,verW] at h6' a0 up tu hl2 hq'
                simp only [stc] at h6' ⊢
                simp only [stc,A_,simprocAttr,ne_eq,(Uz2 _).1,CHK_,Nat.reduceBEq]
                refine h6' _ hcx (by rw [hvx]; exact ok.1) (by rw [hvx]; exact ok.2.1) ?_
                simp only [stc,A_,simprocAttr,ne_eq,(Uz2 _).1,CHK_,Nat.reduceBEq,a0,up,hw]
                exact ih (i + 1,_,Ox) _ _ _ (by show l.length - (i + 1) < l.length - i; omega) ⟨by show i + 1≤l.length; omega,hl2,_,⟨hm,_,tu,hq'⟩,hfold,hsame'⟩ rfl tk2 rfl
              · rw [ofQ_none hn] at hput hvx
                have h6':=h6 Hx.length [] (verW s l[i]) (S ++ [stc s,wc l[i]]) (Hx ++ [HObj.cells [.s .nilS]])
                rw [hput] at h6'
                have hset:∀o:HObj,(Hx ++ [HObj.cells [.s .nilS]]).set Hx.length o=Hx ++ [o]:=fun o=>by simp
                simp only [hset] at h6'
                have tn:=tg.app (G:=[.cells [chK (insV (ofQ Q (l[i]).key) (verW s l[i]))]])
                have a0:=tn.at0
                have hbo:Hx.length∉Ox:=fun q=>by have:=tg.low _ q; omega
                obtain ⟨es,cc,up,tu⟩:=tn.addc hn (b:=Hx.length) (vs:=insV (ofQ Q (l[i]).key) (verW s l[i])) (by simp) hbo hch (S:=S)
                have hq':(putM CH.k cl ⟨(l[i]).key,Hx.length,insV (ofQ Q (l[i]).key) (verW s l[i])⟩).map CH.p=stpA s (cl.map CH.p) l[i]:=by
                  rw [hstp]
                  exact (setQ_put cl ⟨_,_,_⟩).symm
                have hl2:Left H ((Hx ++ [HObj.cells [chK (insV (ofQ Q (l[i]).key) (verW s l[i]))]]).set hm (.map es cc)) O (Ox ++ [Hx.length]):=hleft.trans ⟨KeepF.app.trans (.set tg.own.2.1),fun i hi=>by
                  rcases List.mem_append.1 hi with hi | hi
                  · exact .inl hi
                  · exact .inr (by simp at hi; omega)⟩
                simp only [verc,verW] at h6' a0 up tu hl2 hq'
                simp only [stc] at h6' ⊢
                simp only [stc,A_,simprocAttr,ne_eq,(Uz2 _).1,CHK_,Nat.reduceBEq]
                refine h6' _ (by simp [chK]) (by rw [hvx]; exact ok.1) (by simp) ?_
                simp only [stc,A_,simprocAttr,ne_eq,(Uz2 _).1,CHK_,Nat.reduceBEq,a0,up,hw]
                exact ih (i + 1,_,Ox ++ [Hx.length]) _ _ _ (by show l.length - (i + 1) < l.length - i; omega) ⟨by show i + 1≤l.length; omega,hl2,_,⟨hm,_,tu,hq'⟩,hfold,hsame'⟩ rfl tk2 rfl
            · have hlt:¬((i:Int) < (l.length:Int)):=by omega
              rw [List.drop_of_length_le (by omega),List.foldl_nil] at hfold
              rw [hfold] at hK
              simp only [A_,simprocAttr,ne_eq,(Uz2 _).1,CHK_,Nat.reduceBEq,hlt]
              exact hK _ _ tx hleft
end Go.AM
namespace Go.AM
open Go
set_option maxRecDepth 20000
theorem bears {P:Program} {f:FuncId} {F B:Func} (h:P.funcs[f]? = some F) (hn:(F.name == "runtime.NumGoroutine")=false) (he:F={ B with name:=F.name }):Proofs.Bears P f B:=⟨F.name,hn,h.trans (congrArg some he)⟩
theorem scalars_bs:∀l:List UInt8,scalars (bs l)=some (l.map fun b=>Value.int .u8 b.toNat)
  | []=>rfl
  | x :: l=>by show (scalars (bs l)).map _=_; rw [scalars_bs l]; rfl
theorem kA_enc:EncK 16 kA:=fun x=>⟨bs x.b,_,rfl,by simp [kc_length],scalars_bs x.b⟩
end Go.AM
namespace Go.AM
open Go
open AV renaming undef → uu
set_option maxRecDepth 20000
def ltKc (x y:Key):Bool:=decide (cmpK x y < 0)
theorem swo_Kc:Sort.SWO ltKc:=by
  refine ⟨fun x=>decide_eq_false (by have:=cmp_flip x x; omega),fun x y z h1 h2 => ?_,fun x y z h1 h2 => ?_⟩
  · have h1:cmpK x y < 0:=of_decide_eq_true h1
    have h2:cmpK y z < 0:=of_decide_eq_true h2
    exact decide_eq_true (cmp_lt h1 (by omega))
  · have h1:¬(cmpK x y < 0):=of_decide_eq_false h1
    have h2:¬(cmpK y z < 0):=of_decide_eq_false h2
    have q1:=cmp_flip x y
    have q2:=cmp_flip y z
    have q3:=cmp_flip x z
    have:=cmp_le (a:=z) (b:=y) (c:=x) (by omega) (by omega)
    exact decide_eq_false (by omega)
def SortFSKc (C:CallW) (k f:FuncId):Prop:=∀(n:Nat) (d:Array Key) (S:List (List AV)) (H:List HObj) (K:AV→St→Prop),S[n]? = some (flat kA d)→d.size≤2305843009213693952→(∀R,Sort.PermIn 0 d.size d R→Sort.SortedIn ltKc 0 d.size R→K (.tup []) ⟨S.set n (flat kA R),H⟩)→C (.fn f) [.row (.stk n) 0 d.size d.size,.fn (.func k) [] []] ⟨S,H⟩ K
def SortFNKc (C:CallW) (f:FuncId):Prop:=∀(g:FuncId) (S:List (List AV)) (H:List HObj) (K:AV→St→Prop),K (.tup []) ⟨S,H⟩→C (.fn f) [.s .nilS,.fn (.func g) [] []] ⟨S,H⟩ K
theorem kit_SortFSKc {P : Program} {C : CallW} (h : KitW P C) {ρ : Shelf.Ren} (L : Proofs.SlLaysF0.n6 P ρ) (ha : ∀ w, (Go.isAgg (ρ.t 24)).run P w = .ok true w) (hz : ∀ w, (Go.sizeOf (ρ.t 24)).run P w = .ok 16 w) {k : FuncId} (hk : KCmp C k) (hb : hasBody P k = true) :
    SortFSKc C k (ρ.f 6)∧SortFNKc C (ρ.f 6) :=
  ⟨fun n d S H K hS hd hK=>h.srt ρ L 16 ha hz Key inferInstance kA cmpK k n d S H K kA_enc swo_Kc hb (fun x y=>hk x y [] [] _ rfl) hS hd hK,
    fun g S H K hK=>h.srtN ρ L _ _ K hK⟩
theorem kc_cell {k:Key} (c:AV) (h:c∈bs k.b):c.isCell=true:=by
  unfold bs at h
  obtain ⟨x,_,rfl⟩:=List.mem_map.1 h
  rfl
def KeysSKc (C:CallW) (f g:FuncId):Prop:=∀(hm:Nat) S H (K:AV→St→Prop),K (.fn (.func g) [] [.ptr (.heap H.length) 0]) ⟨S,H ++ [.cells [.map hm]]⟩→C (.fn f) [.map hm] ⟨S,H⟩ K
theorem maps_KeysKc_spec {C:CallW} (P:Program) {c:Nat→FuncId}:∀(hm:Nat) S H (K:AV→St→Prop),K (.fn (.func (c 0)) [] [.ptr (.heap H.length) 0]) ⟨S,H ++ [.cells [.map hm]]⟩→runL C P (Cz1p c) [.map hm] ⟨S,H⟩ K:=by
  intro hm S H K hK
  simp only [Cz1p,A_,simprocAttr,ne_eq]
  exact hK
def KeysItKc (C:CallW) (g:FuncId):Prop:=∀(G:List Key→List HObj) (N h bx hm c:Nat) (es:List Entry) (x:Entry→Key) (S:List (List AV)) (K:AV→St→Prop),(∀acc,(G acc).length=N)→(∀acc,(G acc)[bx]? = some (.cells [.map hm]))→(∀acc,(G acc)[hm]? = some (.map es c))→(es.map (·.born)).Nodup→(∀e∈es,e.born < c)→(∀e∈es,e.key=kA (x e)) →
  (∀acc v it S' (K':AV→St→Prop),acc.length < es.length→K' (.bool true) ⟨S',G (acc ++ [v]) ++ [it]⟩→C (.yield h) [.agg (bs v.b)] ⟨S',G acc ++ [it]⟩ K')→(∀acc it,acc.Perm (es.map x)→K (.tup []) ⟨S,G acc ++ [it]⟩)→C (.fn g) [.yield h,.ptr (.heap bx) 0] ⟨S,G []⟩ K
set_option maxHeartbeats 1600000 in
theorem maps_KeysKc1_spec {C:CallW} (hC:LeC C C) (P:Program):∀(G:List Key→List HObj) (N h bx hm c:Nat) (es:List Entry) (x:Entry→Key) (S:List (List AV)) (K:AV→St→Prop),(∀acc,(G acc).length=N)→(∀acc,(G acc)[bx]? = some (.cells [.map hm]))→(∀acc,(G acc)[hm]? = some (.map es c))→(es.map (·.born)).Nodup→(∀e∈es,e.born < c)→(∀e∈es,e.key=kA (x e)) →
  (∀acc v it S' (K':AV→St→Prop),acc.length < es.length→K' (.bool true) ⟨S',G (acc ++ [v]) ++ [it]⟩→C (.yield h) [.agg (bs v.b)] ⟨S',G acc ++ [it]⟩ K')→(∀acc it,acc.Perm (es.map x)→K (.tup []) ⟨S,G acc ++ [it]⟩)→runL C P Czf [.yield h,.ptr (.heap bx) 0] ⟨S,G []⟩ K:=by
  intro G N h bx hm c es x S K hN hbx hmp hnd hlt hkey hy hK
  have b0:=hbx []
  simp only [Czf,A_,simprocAttr,ne_eq,Uzk.1,b0]
  rw [opS_rng rfl (hmp [])]
  simp only [Czf,A_,simprocAttr,ne_eq,Uzk.1,hN]
  refine loop_rule hC (α:=List Entry) (fun vs=>es.length - vs.length) (fun vs=>[.yield h,uu,uu,uu,uu,.ptr (.heap N) 0,uu,uu,uu,uu,uu,uu,uu,uu]) (fun _=>S) (fun vs=>G (vs.map x) ++ [.iter ⟨some hm,c,vs.map (·.born),c⟩]) (fun vs=>(vs.map (·.born)).Nodup∧∀e∈vs,e∈es) [] ⟨.nil,fun e h=>by cases h⟩ (by simp [keep,zm]) (by first | rw [List.take_of_length_le (Nat.le_refl _)] | simp) rfl (fun a _=>by simp [AV.under,AV.under.go]) ?_
  rintro vs ⟨hvn,hvs⟩ ih
  have hit:(G (vs.map x) ++ [.iter ⟨some hm,c,vs.map (·.born),c⟩])[N]? = some (.iter ⟨some hm,c,vs.map (·.born),c⟩):=by rw [←hN (vs.map x)]; simp
  have hmm:∀o,(G (vs.map x) ++ [o])[hm]? = some (.map es c):=fun o=>happ (hmp _)
  simp only [Czf,A_,simprocAttr,ne_eq,Uzk.1]
  rw [opS_nxt rfl hit rfl (hmm _)]
  refine ⟨?_,fun hall => ?_,fun e he hns => ?_⟩
  · cases vs with
    | nil=>exact .inl rfl
    | cons v vs=>exact .inr (.inr ⟨v,hvs v List.mem_cons_self,hlt v (hvs v List.mem_cons_self)⟩)
  · have hp:vs.Perm es:=by
      refine (List.perm_ext_iff_of_nodup ?_ ?_).2 fun e=>⟨hvs e,fun he => ?_⟩
      · exact List.Pairwise.of_map (·.born) (fun a b h e=>h (by rw [e])) hvn
      · exact List.Pairwise.of_map (·.born) (fun a b h e=>h (by rw [e])) hnd
      · rcases hall e he with h1 | h1
        · rw [List.mem_map] at h1
          obtain ⟨v,hv,hb⟩:=h1
          have q1:=born_find hnd (hvs v hv)
          have q2:=born_find hnd he
          rw [hb,q2] at q1
          rw [Option.some.inj q1]; exact hv
        · have:=hlt e he
          exact absurd h1 (by dsimp only; omega)
    simp only [Czf,A_,simprocAttr,ne_eq,Uzk.1]
    exact hK _ _ (hp.map x)
  · have hk:=hkey e he
    have hset:∀o o':HObj,(G (vs.map x) ++ [o]).set N o'=G (vs.map x) ++ [o']:=fun o o'=>by rw [←hN (vs.map x)]; simp
    have hit2:(G (vs.map x) ++ [.iter ⟨some hm,c,vs.map (·.born) ++ [e.born],c⟩])[N]? = some (.iter ⟨some hm,c,vs.map (·.born) ++ [e.born],c⟩):=by rw [←hN (vs.map x)]; simp
    dsimp only
    rw [hset]
    have hll:vs.length < es.length:=by
      have hb:((vs ++ [e]).map (·.born)).Nodup:=by
        rw [List.map_append,List.nodup_append]
        exact ⟨hvn,by simp,fun a ha b hb=>by
          have:b=e.born:=by simpa using hb
          subst this
          exact fun e2=>hns (e2▸ha)⟩
      have hnd2:(vs ++ [e]).Nodup:=List.Pairwise.of_map (·.born) (fun a b h e=>h (by rw [e])) hb
      have h1:(vs ++ [e]).length≤es.length:=hnd2.length_le_of_subset fun z hz=>by
        rcases List.mem_append.1 hz with hz | hz
        · exact hvs z hz
        · have:z=e:=by simpa using hz
          rw [this]; exact he
      simp at h1; omega
    simp only [Czf,A_,simprocAttr,ne_eq,Uzk.1]
    rw [opS_ent rfl hit2 rfl (hmm _) (b:=e.born) (by simp) rfl (born_find hnd he),hk]
    simp only [kA,Czf,A_,simprocAttr,ne_eq,Uzk.1,WR_]
    refine hy _ (x e) _ _ _ (by simpa using hll) ?_
    simp only [Czf,A_,simprocAttr,ne_eq,Uzk.1]
    refine ih (vs ++ [e]) _ _ _ (by simp; omega) ⟨?_,fun z hz => ?_⟩ (by simp [keep,zm]) (by first | rw [List.take_of_length_le (Nat.le_refl _)] | simp) (by simp)
    · rw [List.map_append,List.nodup_append]
      exact ⟨hvn,by simp,fun a ha b hb=>by
        have:b=e.born:=by simpa using hb
        subst this
        exact fun e2=>hns (e2▸ha)⟩
    · rcases List.mem_append.1 hz with hz | hz
      · exact hvs z hz
      · have:z=e:=by simpa using hz
        rw [this]; exact he
def slKc (l:List Key):AV:=slG 16 (l.map kA)
theorem slKc_nil:slKc [] = .s .nilS:=rfl
theorem slKc_ne {l:List Key} (h:l≠[]):slKc l = .list .uniq 16 (l.map kA):=if_neg (by simpa using h)
theorem slKc_under {n:Nat} {l:List Key}:AV.under n (slKc l)=true:=slG_under
theorem app_slKc {e:ET} {l:List Key} {v:Key} {σ:St} (h1:e.c=16) (h2:e.bytes=16) (hl:l.length≤1000000):appendL e false (slKc l) (.list .full 16 [.agg (bs v.b)]) σ=some (slKc (l ++ [v]),σ):=by
  have h:=app_slG (e:=e) (es:=l.map kA) (a:=kA v) (σ:=σ) (under_bs _ _) (by rw [List.length_map,h2]; omega)
  rw [h1] at h
  unfold slKc
  rw [show (AV.agg (bs v.b))=kA v from rfl,h,List.map_append]; rfl
theorem load_keptKc {S:List (List AV)} {H G:List HObj} {l:List Key}:load1L true (.ptr (.heap H.length) 0) ⟨S,H ++ .cells [slKc l] :: G⟩=some (slKc l,⟨S,H ++ .cells [(slKc l).left] :: G⟩):=by
  have hb:boxOf ⟨S,H ++ .cells [slKc l] :: G⟩ (.heap H.length)=some [slKc l]:=by simp [boxOf]
  simp only [load1L,hb,Option.bind_some]
  simp [splice,setBox]
theorem store_keptKc {S:List (List AV)} {H G:List HObj} {a:AV} {l:List Key} (hne:l≠[]):storeUL (.ptr (.heap H.length) 0) (slKc l) ⟨S,H ++ .cells [a] :: G⟩=some ⟨S,H ++ .cells [slKc l] :: G⟩:=by
  have hb:boxOf ⟨S,H ++ .cells [a] :: G⟩ (.heap H.length)=some [a]:=by simp [boxOf]
  rw [slKc_ne hne]
  simp [storeUL,AV.fit,AV.kept,AV.isCell,hb,writeCells,mayHold,AV.under.go,AV.under,splice,setBox]
structure MapKc (H:List HObj) (bx hm c:Nat) (es:List Entry) (x:Entry→Key):Prop where
  box:H[bx]? = some (.cells [.map hm])
  map:H[hm]? = some (.map es c)
  nd:(es.map (·.born)).Nodup
  lt:∀e∈es,e.born < c
  val:∀e∈es,e.key=kA (x e)
  len:es.length≤1000000
def AppSeqKcS (C:CallW) (f g:FuncId):Prop:=∀(bx hm c:Nat) (es:List Entry) (x:Entry→Key) S H (K:AV→St→Prop),MapKc H bx hm c es x→(∀acc G,acc.Perm (es.map x)→K (slKc acc) ⟨S,H ++ G⟩)→C (.fn f) [.s .nilS,.fn (.func g) [] [.ptr (.heap bx) 0]] ⟨S,H⟩ K
set_option maxHeartbeats 1600000 in
theorem AppendSeq_specKc {C:CallW} (hC:LeC C C) (P:Program) {c:Nat→FuncId} {as1 bd1:Code} {g:FuncId} (h1:KeysItKc C g) (hB:hasBody P g=true) (hR:RoundOK C P (c 0) as1 bd1 (Czo).code (Czp).code):∀(bx hm cc:Nat) (es:List Entry) (x:Entry→Key) S H (K:AV→St→Prop),MapKc H bx hm cc es x→(∀acc G,acc.Perm (es.map x)→K (slKc acc) ⟨S,H ++ G⟩)→runL C P (Czy c as1 bd1) [.s .nilS,.fn (.func g) [] [.ptr (.heap bx) 0]] ⟨S,H⟩ K:=by
  intro bx hm cc es x S H K hM hK
  simp only [Czy,A_,simprocAttr,ne_eq,(Uz18 _ _ _).1,hB]
  refine h1 (fun acc=>H ++ [.cells [slKc acc],.loop ⟨c 0,[.s .nilS,.fn (.func g) [] [.ptr (.heap bx) 0],.ptr (.heap H.length) 0,.undef,.s .nilS,.undef,.fn (.func g) [] [.ptr (.heap bx) 0],uu,uu,uu,uu,uu,uu],[7],as1,bd1,true,none⟩]) (H.length + 2) (H.length + 1) bx hm cc es x S _ (fun acc=>by simp) (fun acc=>happ hM.box) (fun acc=>happ hM.map) hM.nd hM.lt hM.val (fun acc v it S' K' hacc hK' => ?_) (fun acc it hp => ?_)
  · have ha:∀(e:ET) (σ:St),e.c=16→e.bytes=16→appendL e false (slKc acc) (.list .full 16 [.agg (bs v.b)]) σ=some (slKc (acc ++ [v]),σ):=fun e σ h1 h2=>app_slKc h1 h2 (by have:=hM.len; omega)
    have st:=fun {S:List (List AV)} {a:AV} {G:List HObj}=>store_keptKc (S:=S) (H:=H) (G:=G) (a:=a) (l:=acc ++ [v]) (by simp)
    have hne:=slKc_ne (l:=acc ++ [v]) (by simp)
    rw [List.append_assoc]
    refine hR _ _ _ _ _ _ _ (by rw [app_get]; rfl) rfl ?_
    rw [List.append_assoc] at hK'
    rw [hne] at ha st hK'
    simp only [Czo,Czp,A_,simprocAttr,ne_eq,(Uz18 _ _ _).1,WR_,load_keptKc,ha,st]
    exact hK'
  · rw [List.append_assoc]
    simp only [Czy,A_,simprocAttr,ne_eq,(Uz18 _ _ _).1,load_keptKc]
    exact ⟨slKc_under,hK _ _ hp⟩
def CollKcS (C:CallW) (f g:FuncId):Prop:=∀(bx hm c:Nat) (es:List Entry) (x:Entry→Key) S H (K:AV→St→Prop),MapKc H bx hm c es x→(∀acc G,acc.Perm (es.map x)→K (slKc acc) ⟨S,H ++ G⟩)→C (.fn f) [.fn (.func g) [] [.ptr (.heap bx) 0]] ⟨S,H⟩ K
theorem Collect_specKc {C:CallW} (P:Program) {c:Nat→FuncId} {g:FuncId} (h0:AppSeqKcS C (c 0) g):∀(bx hm cc:Nat) (es:List Entry) (x:Entry→Key) S H (K:AV→St→Prop),MapKc H bx hm cc es x→(∀acc G,acc.Perm (es.map x)→K (slKc acc) ⟨S,H ++ G⟩)→runL C P (Cz14 c) [.fn (.func g) [] [.ptr (.heap bx) 0]] ⟨S,H⟩ K:=by
  intro bx hm cc es x S H K hM hK
  simp only [Cz14,A_,simprocAttr,ne_eq,(Uz1x _).1]
  refine h0 bx hm cc es x S H _ hM fun acc G hp => ?_
  simp only [Cz14,A_,simprocAttr,ne_eq,(Uz1x _).1]
  exact ⟨slKc_under,hK _ _ hp⟩
def arrKc (l:List Key):Array Key:=l.toArray
theorem flat_arrKc (l:List Key):(l.map kA).flatMap AV.cells=flat kA (arrKc l):=by
  unfold flat arrKc
  simp only [List.flatMap_map]
theorem thaw_slKc {fr:Fr} {t:Nat} {l:List Key} {S:List (List AV)} {H:List HObj} (hne:l≠[]) (h:fr.getD t .undef=slKc l):AM.thaw fr (.tmp t) ⟨S,H⟩=some (.row (.stk S.length) 0 l.length l.length,fr.set t (.row (.stk S.length) 0 l.length l.length),⟨S ++ [flat kA (arrKc l)],H⟩):=by
  unfold AM.thaw
  simp only [h,slKc_ne hne]
  rw [if_neg (by simp [hne]),flat_arrKc,newBox_stk (flat_low kA_EK _ _)]
  simp
theorem thaw_slKc0 {fr:Fr} {t:Nat} {σ:St} (h:fr.getD t .undef=slKc []):AM.thaw fr (.tmp t) σ=some (.s .nilS,fr,σ):=by
  unfold AM.thaw
  simp only [h]
  rfl
theorem group_kc {e:ET} (h1:e.c=16) (h2:e.ag=true):∀l:List Key,groupL e l.length (l.flatMap fun x=>(kA x).cells)=l.map kA
  | []=>rfl
  | x :: l=>by
    have hx:((kA x).cells).length=16:=kc_length x
    rw [List.length_cons,groupL,h1,List.flatMap_cons,List.take_left' hx,List.drop_left' hx,group_kc h1 h2 l]
    simp [packL,h2,kA,AV.cells]
theorem freeze_kc {e:ET} {S:List (List AV)} {H:List HObj} {n N:Nat} {d:Array Key} (h1:e.c=16) (h2:e.ag=true) (hS:S[n]? = some (flat kA d)):freezeL e (.row (.stk n) 0 d.size N) ⟨S,H⟩=some (.list .sh 16 (d.toList.map kA),⟨S.set n [],H⟩):=by
  have hfl:=flat_length kA_EK d
  have hlook:(flat kA d).map AV.look=flat kA d:=by
    unfold flat
    generalize d.toList=l
    induction l with
    | nil=>rfl
    | cons x l ih=>rw [List.flatMap_cons,List.map_append,ih]; congr 1; exact kA_EK.look x
  have hcell:(flat kA d).all AV.isCell=true:=by
    unfold flat
    generalize d.toList=l
    induction l with
    | nil=>rfl
    | cons x l ih =>
      rw [List.flatMap_cons,List.all_append,ih,Bool.and_true]
      exact List.all_eq_true.2 fun c hc=>kc_cell c hc
  have hg:=group_kc h1 h2 d.toList
  rw [Array.length_toList] at hg
  have htk:((flat kA d).drop 0).take (d.size * 16)=flat kA d:=by rw [List.drop_zero,List.take_of_length_le (by omega)]
  unfold freezeL
  simp only [h1,readCells,boxOf_stk,hS,Option.bind_some]
  rw [if_pos ⟨by omega,.inr (by rw [htk,hlook]; exact hcell)⟩]
  simp only [Option.bind_some,htk,hlook]
  rw [if_pos ⟨flat_low kA_EK _ _,by decide,by rw [h2]; rfl⟩]
  unfold flat
  rw [hg]
theorem sorted_kc {R:Array Key} {n:Nat} (hn:R.size=n) (hk:R.toList.Nodup) (h:Sort.SortedIn (ltKc) 0 n R):R.toList.Pairwise fun a b=>cmpK a b < 0:=by
  rw [List.pairwise_iff_getElem]
  intro i j hi hj hij
  have hj':j < R.size:=by simpa using hj
  have hi':i < R.size:=by simpa using hi
  have:=h i j (Nat.zero_le _) hij (by omega)
  rw [get_bang hj',get_bang hi'] at this
  have h1:¬(cmpK (R.toList[j]) (R.toList[i]) < 0):=of_decide_eq_false this
  have h2:=cmp_flip (R.toList[i]) (R.toList[j])
  have h3:cmpK (R.toList[i]) (R.toList[j])≠0:=by
    intro e
    have:=(cmpK_eq (R.toList[i]) (R.toList[j])).1 e
    have q:=List.pairwise_iff_getElem.1 hk i j (by simpa using hi) (by simpa using hj) hij
    exact q this
  omega
theorem sorted_permKc {R:Array Key} {l:List Key} (h:Sort.PermIn 0 l.length (arrKc l) R):R.toList.Perm l:=by
  have hsz:R.size=l.length:=h.1
  have:=h.2.2
  rw [←hsz,Array.extract_size,hsz] at this
  rw [show l.length=(arrKc l).size from rfl,Array.extract_size] at this
  exact this
def SortedKcS (C:CallW) (f g k:FuncId):Prop:=∀(bx hm c:Nat) (es:List Entry) (x:Entry→Key) S H (K:AV→St→Prop),MapKc H bx hm c es x→(es.map x).Nodup→(∀(L:List Key) (G:List HObj),L.Perm (es.map x)→L.Pairwise (fun a b=>cmpK a b < 0)→K (lstK L) ⟨S,H ++ G⟩)→C (.fn f) [.fn (.func g) [] [.ptr (.heap bx) 0],.fn (.func k) [] []] ⟨S,H⟩ K
set_option maxHeartbeats 8000000 in
theorem SortedFunc_specKc {C:CallW} (P:Program) {c:Nat→FuncId} {g k:FuncId} (h0:CollKcS C (c 0) g) (h1:SortFSKc C k (c 1)) (h1n:SortFNKc C (c 1)):∀(bx hm cc:Nat) (es:List Entry) (x:Entry→Key) S H (K:AV→St→Prop),MapKc H bx hm cc es x→(es.map x).Nodup→(∀(L:List Key) (G:List HObj),L.Perm (es.map x)→L.Pairwise (fun a b=>cmpK a b < 0)→K (lstK L) ⟨S,H ++ G⟩)→runL C P (Czb c) [.fn (.func g) [] [.ptr (.heap bx) 0],.fn (.func k) [] []] ⟨S,H⟩ (WkK K):=by
  intro bx hm cc es x S H K hM hnd hK
  have hfz:∀(e:ET) (σ:St),freezeL e (.s .nilS) σ=some (.s .nilS,σ):=fun _ _=>rfl
  simp only [Czb,A_,simprocAttr,ne_eq,(Uzg _).1]
  refine h0 bx hm cc es x S H _ hM fun acc G hp => ?_
  have hal:acc.length≤1000000:=by have:=hp.length_eq; rw [List.length_map] at this; have:=hM.len; omega
  by_cases e:acc=[]
  · subst e
    simp only [Czb,A_,simprocAttr,ne_eq,(Uzg _).1]
    rw [thaw_slKc0 rfl]
    simp only [Czb,A_,simprocAttr,ne_eq,(Uzg _).1]
    refine h1n _ _ _ _ ?_
    simp only [Czb,A_,simprocAttr,ne_eq,(Uzg _).1,slKc_nil,hfz]
    exact ⟨_,.inr (.nilS (by omega) .nil),hK [] G hp .nil⟩
  · simp only [Czb,A_,simprocAttr,ne_eq,(Uzg _).1]
    rw [thaw_slKc e rfl]
    have hS1:(S ++ [flat kA (arrKc acc)])[S.length]? = some (flat kA (arrKc acc)):=by simp
    simp only [Czb,A_,simprocAttr,ne_eq,(Uzg _).1,List.set_cons_zero,List.set_cons_succ]
    refine h1 S.length (arrKc acc) _ _ _ hS1 (by show acc.length≤_; omega) fun R hR1 hR2 => ?_
    have hRs:R.size=acc.length:=hR1.1
    have hset:∀x y:List AV,(S ++ [x]).set S.length y=S ++ [y]:=fun x y=>by simp
    rw [hset]
    have hS2:(S ++ [flat kA R])[S.length]? = some (flat kA R):=by simp
    have hRp:=(sorted_permKc hR1).trans hp
    have hf:∀{e:ET},e.c=16→e.ag=true→freezeL e (.row (.stk S.length) 0 acc.length acc.length) ⟨S ++ [flat kA R],H ++ G⟩=some (.list .sh 16 (R.toList.map kA),⟨S ++ [[]],H ++ G⟩):=fun h1 h2=>by
      rw [←hRs,freeze_kc (H:=H ++ G) h1 h2 hS2,hset]
    simp only [Czb,A_,simprocAttr,ne_eq,(Uzg _).1,hf]
    exact ⟨_,.inl rfl,hK R.toList G hRp (sorted_kc hRs (hRp.nodup_iff.2 hnd) hR2)⟩
def keysQ (Q:Sto):List Key:=(Q.map Prod.fst).mergeSort fun a b=>decide (cmpK a b≤0)
theorem keysQ_perm (Q:Sto):(keysQ Q).Perm (Q.map Prod.fst):=List.mergeSort_perm _ _
theorem keysQ_le (Q:Sto):(keysQ Q).Pairwise fun a b=>cmpK a b≤0:=by
  have:=List.pairwise_mergeSort (le:=fun a b:Key=>decide (cmpK a b≤0)) (fun a b c h1 h2=>by
    have h1:cmpK a b≤0:=of_decide_eq_true h1
    have h2:cmpK b c≤0:=of_decide_eq_true h2
    exact decide_eq_true (cmp_le h1 h2)) (fun a b=>by
    have:=cmp_flip a b
    by_cases h:cmpK a b≤0
    · simp [h]
    · simp only [h,decide_false,Bool.false_or,decide_eq_true_eq]; omega) (Q.map Prod.fst)
  exact this.imp fun h=>of_decide_eq_true h
theorem sorted_same:∀{L M:List Key},L.Perm M→L.Pairwise (fun a b=>cmpK a b≤0)→M.Pairwise (fun a b=>cmpK a b≤0)→L=M
  | [],M,hp,_,_=>hp.symm.eq_nil.symm
  | a :: L,[],hp,_,_=>hp.eq_nil
  | a :: L,b :: M,hp,h1,h2=>by
    rw [List.pairwise_cons] at h1 h2
    have hab:a=b:=by
      rcases List.mem_cons.1 (hp.subset List.mem_cons_self) with e | e
      · exact e
      · rcases List.mem_cons.1 (hp.symm.subset List.mem_cons_self) with e' | e'
        · exact e'.symm
        · have q1:=h2.1 a e
          have q2:=h1.1 b e'
          have:=cmp_flip a b
          exact (cmpK_eq a b).1 (by omega)
    subst hab
    rw [sorted_same (hp.cons_inv) h1.2 h2.2]
theorem keysQ_eq {L:List Key} {Q:Sto} (h1:L.Perm (Q.map Prod.fst)) (h2:L.Pairwise fun a b=>cmpK a b < 0):L=keysQ Q:=sorted_same (h1.trans (keysQ_perm Q).symm) (h2.imp fun h=>Int.le_of_lt h) (keysQ_le Q)
def StKeysS (C:CallW) (f:FuncId):Prop:=∀(h:Nat) (Q:Sto) (O:List Nat) S H (K:AV→St→Prop),StA H O h Q→Q.length≤1000→(∀G,K (lstK (keysQ Q)) ⟨S,H ++ G⟩)→C (.fn f) [.ptr (.heap h) 0] ⟨S,H⟩ K
theorem kA_in {x y:Key} (h:kA x=kA y):x=y:=by
  unfold kA at h
  injection h with h
  exact Key.ext' (bs_in h)
theorem store_Keys_spec {C:CallW} (P:Program) {c:Nat→FuncId} {g:FuncId} (h0:KeysSKc C (c 0) g) (h1:SortedKcS C (c 1) g (c 2)):∀(h:Nat) (Q:Sto) (O:List Nat) S H (K:AV→St→Prop),StA H O h Q→Q.length≤1000→(∀G,K (lstK (keysQ Q)) ⟨S,H ++ G⟩)→runL C P (Cz10 c) [.ptr (.heap h) 0] ⟨S,H⟩ K:=by
  rintro h _ O S H K ⟨hm,l,t,rfl⟩ hq hK
  have a0:=t.at0
  obtain ⟨es,cc,a,g⟩:=t.map
  have hrel:=g.rel
  unfold RelM at hrel
  have hlen:es.length=l.length:=by have:=congrArg List.length hrel; simpa using this
  have hget:∀j (h1:j < es.length) (h2:j < l.length),es[j].key=kA l[j].k:=by
    intro j h1 h2
    have:=congrArg (fun z=>z[j]?) hrel
    simp [h1,h2] at this
    exact this.1
  have hx:∀e:Entry,∃w:Key,e∈es→e.key=kA w:=fun e=>by
    by_cases he:e∈es
    · obtain ⟨j,hj,rfl⟩:=List.mem_iff_getElem.1 he
      exact ⟨_,fun _=>hget j hj (by omega)⟩
    · exact ⟨key0,fun q=>absurd q he⟩
  obtain ⟨x,hx⟩:∃x:Entry→Key,∀e∈es,e.key=kA (x e):=⟨fun e=>Classical.choose (hx e),fun e he=>Classical.choose_spec (hx e) he⟩
  have hmap:es.map x=l.map CH.k:=by
    refine List.ext_getElem (by simpa using hlen) fun j h1 h2 => ?_
    have h1':j < es.length:=by simpa using h1
    rw [List.getElem_map,List.getElem_map]
    exact kA_in ((hx _ (List.getElem_mem h1')).symm.trans (hget j h1' (by omega)))
  have hkk:(l.map CH.p).map Prod.fst=l.map CH.k:=by rw [List.map_map]; rfl
  simp only [Cz10,A_,simprocAttr,ne_eq,(Uz1k _).1,CHK_,Nat.reduceBEq,a0]
  refine h0 hm _ _ _ ?_
  simp only [Cz10,A_,simprocAttr,ne_eq,(Uz1k _).1]
  rw [List.length_map] at hq
  refine h1 _ hm cc es x _ _ _ ⟨by simp,happ a,g.nd,g.lt,hx,by omega⟩ (by rw [hmap]; exact t.nk) fun L G hp hs => ?_
  have hL:=keysQ_eq (Q:=l.map CH.p) (L:=L) (by rw [hkk,←hmap]; exact hp) hs
  have hK:=hK (.cells [.map hm] :: G)
  rw [←hL] at hK
  simp only [lstK] at hK ⊢
  simp only [Cz10,A_,simprocAttr,ne_eq,(Uz1k _).1]
  exact hK
end Go.AM
namespace Go.AM
open Go
set_option maxRecDepth 20000
end Go.AM
namespace Go.AM
open Go
open AV renaming undef → uu
set_option maxRecDepth 20000
set_option maxHeartbeats 1000000 in
theorem key_Within_spec {C:CallW} (P:Program) {c:Nat→FuncId} (hf:KCmp C (c 0)):∀(k a b:Key) S H K,K (.bool (withinK k a b)) ⟨S,H⟩→runL C P (Cz19 c) [.agg (bs k.b),.agg (bs a.b),.agg (bs b.b)] ⟨S,H⟩ K:=by
  intro k a b S H K hK
  simp only [Cz19,RUN_,(Uz1t _).1,FR_,simprocAttr,if_true,if_false,ite_true,ite_false,ne_eq,eq_self,OPK_,KEY_]
  refine hf _ _ _ _ _ ?_
  by_cases h1:(0:Int)≤Lib.compareBytes k.b a.b
  · by_cases h2:b=key0
    · have e:withinK k a b=true:=by simp [withinK,cmpK,h1,h2]
      rw [e] at hK
      simp only [Cz19,RUN_,(Uz1t _).1,FR_,simprocAttr,if_true,if_false,ite_true,ite_false,ne_eq,eq_self,OPK_,KEY_,h1,h2]
      exact hK
    · have e:withinK k a b=decide (Lib.compareBytes k.b b.b < 0):=by unfold withinK cmpK; rw [decide_eq_true h1,decide_eq_false h2]; rfl
      rw [e] at hK
      simp only [Cz19,RUN_,(Uz1t _).1,FR_,simprocAttr,if_true,if_false,ite_true,ite_false,ne_eq,eq_self,OPK_,KEY_,h1,h2]
      refine hf _ _ _ _ _ ?_
      simp only [Cz19,RUN_,(Uz1t _).1,FR_,simprocAttr,if_true,if_false,ite_true,ite_false,ne_eq,eq_self,OPK_,KEY_,h1,h2]
      exact hK
  · have e:withinK k a b=false:=by simp [withinK,cmpK,h1]
    rw [e] at hK
    simp only [Cz19,RUN_,(Uz1t _).1,FR_,simprocAttr,if_true,if_false,ite_true,ite_false,ne_eq,eq_self,OPK_,KEY_,h1]
    exact hK
def scanF (Q:Sto) (a b:Key) (s:Stp) (m:Int):List It→List Key→List It
  | acc,[]=>acc
  | acc,k :: r=>if m≤(acc.length:Int) then acc else if withinK k a b=false then scanF Q a b s m acc r else if (getS Q k s).2=true then scanF Q a b s m (acc ++ [⟨k,(getS Q k s).1⟩]) r else scanF Q a b s m acc r
def scanQ (Q:Sto) (a b:Key) (s:Stp) (m:Int):List It:=scanF Q a b s m [] (keysQ Q)
def ScanS (C:CallW) (f:FuncId):Prop:=∀(h:Nat) (Q:Sto) (O:List Nat) (a b:Key) (s:Stp) (m:Int) S H (K:AV→St→Prop),StA H O h Q→Q.length≤1000→(∀G,K (lstIt (scanQ Q a b s m)) ⟨S,H ++ G⟩)→C (.fn f) [.ptr (.heap h) 0,.agg (bs a.b),.agg (bs b.b),.agg (stc s),.s (.int .i64 m)] ⟨S,H⟩ K
def ScV (acc:List It) (v:AV):Prop:=(v = .s .nilS∧acc=[])∨v = .list .uniq 17 (acc.map itA)∨v = .list .own 17 (acc.map itA)
theorem ScV.und {acc:List It} {v:AV} (h:ScV acc v) {n:Nat}:AV.under n v=true:=by rcases h with ⟨rfl,_⟩ | rfl | rfl <;> rfl
theorem ScV.wk {acc:List It} {v:AV} (h:ScV acc v):WkL [v.sh] [lstIt acc]:=by
  rcases h with ⟨rfl,rfl⟩ | rfl | rfl
  · exact .nilS (by omega) .nil
  · exact .same .nil
  · exact .same .nil
def ScanRS (C:CallW) (f:FuncId):Prop:=∀(h:Nat) (Q:Sto) (O:List Nat) (a b:Key) (s:Stp) (m:Int) S H (K:AV→St→Prop),StA H O h Q→Q.length≤1000→(∀v G,ScV (scanQ Q a b s m) v→K v ⟨S,H ++ G⟩)→C (.fn f) [.ptr (.heap h) 0,.agg (bs a.b),.agg (bs b.b),.agg (stc s),.s (.int .i64 m)] ⟨S,H⟩ K
theorem app_it0 {e:ET} {v:It} {σ:St} (h1:e.c=17) (h2:e.bytes=32):appendL e false (.s .nilS) (.list .full 17 [.agg (itc v)]) σ=some (.list .uniq 17 (([] ++ [v]).map itA),σ):=by
  have h:=app_slG (e:=e) (es:=[]) (a:=itA v) (σ:=σ) itc_under (by rw [h2]; simp)
  rw [h1] at h
  exact h
theorem app_itO {e:ET} {l:List It} {v:It} {σ:St} (h1:e.c=17) (h2:e.bytes=32) (hl:l.length≤1000000):appendL e false (.list .own 17 (l.map itA)) (.list .full 17 [.agg (itc v)]) σ=some (.list .own 17 ((l ++ [v]).map itA),σ):=by
  have he:elemsL e (.list .full 17 [itA v]) σ=some [itA v]:=by simp [elemsL,h1]
  have hg:AV.under.go 0 [itA v]=true:=by simp [AV.under.go,itA_under]
  unfold appendL
  rw [show (AV.agg (itc v))=itA v from rfl]
  simp only [srcL,AV.isSlice,if_true,he,Option.bind_some,hg,appItems,h1,h2]
  simp
  omega
theorem tk30 {α:Type} {S:List α} {a b c:α}:(S ++ [a,b,c]).take (S.length + 3)=S ++ [a,b,c]:=List.take_of_length_le (by simp)
theorem tk3 {α:Type} {S:List α} {a b c d:α}:(S ++ [a,b,c,d]).take (S.length + 3)=S ++ [a,b,c]:=by
  rw [show S ++ [a,b,c,d]=(S ++ [a,b,c]) ++ [d] by simp,List.take_append_of_le_length (by simp),List.take_of_length_le (by simp)]
set_option maxHeartbeats 16000000 in
theorem store_Scan_spec {C:CallW} (hC:LeC C C) (P:Program) {c:Nat→FuncId} (h0:StKeysS C (c 0)) (h1:WithinS C (c 1)) (h2:StGetS C (c 2)):∀(h:Nat) (Q:Sto) (O:List Nat) (a b:Key) (s:Stp) (m:Int) S H (K:AV→St→Prop),StA H O h Q→Q.length≤1000→(∀v G,ScV (scanQ Q a b s m) v→K v ⟨S,H ++ G⟩)→runL C P (Cz1a c) [.ptr (.heap h) 0,.agg (bs a.b),.agg (bs b.b),.agg (stc s),.s (.int .i64 m)] ⟨S,H⟩ K:=by
  intro h Q O a b s m S H K t hq hK
  unfold scanQ at hK
  simp only [stc,Cz1a,A_,simprocAttr,ne_eq,(Uz5 _).1,CHK_,Nat.reduceBEq]
  refine h0 h Q O _ _ _ t hq fun G0 => ?_
  have hkl:(keysQ Q).length≤1000:=by have:=(keysQ_perm Q).length_eq; rw [List.length_map] at this; omega
  generalize keysQ Q=ks at hK hkl
  simp only [lstK,stc,Cz1a,A_,simprocAttr,ne_eq,(Uz5 _).1,CHK_,Nat.reduceBEq]
  refine loop_rule hC (α:=Nat×List It×List HObj×AV) (fun x=>ks.length - x.1) (fun x=>[.ptr (.heap h) 0,uu,uu,uu,.s (.int .i64 m),.undef,.ptr (.stk S.length) 0,.ptr (.stk (S.length + 1)) 0,.ptr (.stk (S.length + 2)) 0,uu,uu,x.2.2.2,uu,uu,uu,uu,uu,.list .sh 16 (ks.map kA),.s (.int .i64 ks.length),.s (.int .i64 x.1),uu,uu,uu,uu,uu,uu,uu,uu,uu,uu,uu,uu,uu,uu,uu,uu,uu,uu,uu,uu,uu,uu,uu,uu,uu,uu,uu,uu]) (fun _=>S ++ [bs a.b,bs b.b,stc s]) (fun x=>H ++ x.2.2.1) (fun x=>x.1≤ks.length∧x.2.1.length≤x.1∧ScV x.2.1 x.2.2.2∧scanF Q a b s m [] ks=scanF Q a b s m x.2.1 (ks.drop x.1)) (0,[],G0,.s .nilS) ⟨by simp,by simp,.inl ⟨rfl,rfl⟩,by simp⟩ rfl tk30 rfl (fun x hx=>by simp [AV.under,AV.under.go,hx.2.2.1.und]) ?_
  rintro ⟨i,acc,G,v⟩ ⟨hi,hal,hv,hinv⟩ ih
  dsimp only at hi hal hv hinv
  by_cases h16:i < ks.length
  · have hlt:((i:Int) < (ks.length:Int)):=by omega
    have hw:IntKind.i64.wrap ((i:Int) + 1)=(i:Int) + 1:=wrap_i64 (by omega) (by omega)
    rw [List.drop_eq_getElem_cons h16,scanF] at hinv
    have e2:∀k:IntKind,indexAddrL (.sl 16) (.list .sh 16 (ks.map kA)) (.s (.int k (i:Int)))=some (.rop (bs ks[i].b)):=fun k=>ixl_map h16 (by omega)
    have e0:((([]:List It).length:Nat):Int)=0:=rfl
    have h2':=fun S' H'=>h2 h Q O ks[i] s S' H'
    simp only [stc] at h2'
    have ha:∀(e:ET) (x:It) (σ:St),e.c=17→e.bytes=32→appendL e false (.list .own 17 (acc.map itA)) (.list .full 17 [.agg (itc x)]) σ=some (.list .own 17 ((acc ++ [x]).map itA),σ):=fun e x σ h1 h2=>app_itO h1 h2 (by omega)
    have ha0:∀(e:ET) (x:It) (σ:St),e.c=17→e.bytes=32→appendL e false (.s .nilS) (.list .full 17 [.agg (itc x)]) σ=some (.list .uniq 17 (([] ++ [x]).map itA),σ):=fun e x σ h1 h2=>app_it0 h1 h2
    have hitc:bs ks[i].b ++ [.s (.str (getS Q ks[i] s).1)]=itc ⟨ks[i],(getS Q ks[i] s).1⟩:=rfl
    by_cases hm:m≤(acc.length:Int)
    · rw [if_pos hm] at hinv
      rw [hinv] at hK
      rcases hv with ⟨rfl,rfl⟩ | rfl | rfl
      · rw [e0] at hm
        simp only [stc,A_,simprocAttr,ne_eq,(Uz5 _).1,CHK_,Nat.reduceBEq,hlt,h16,hm]
        exact hK _ _ (.inl ⟨rfl,rfl⟩)
      · simp only [stc,A_,simprocAttr,ne_eq,(Uz5 _).1,CHK_,Nat.reduceBEq,hlt,h16,hm]
        exact hK _ _ (.inr (.inr rfl))
      · simp only [stc,A_,simprocAttr,ne_eq,(Uz5 _).1,CHK_,Nat.reduceBEq,hlt,h16,hm]
        exact hK _ _ (.inr (.inr rfl))
    · rw [if_neg hm] at hinv
      rcases hv with ⟨rfl,rfl⟩ | hv
      · rw [e0] at hm
        simp only [stc,A_,simprocAttr,ne_eq,(Uz5 _).1,CHK_,Nat.reduceBEq,hlt,h16,hm]
        refine h1 _ _ _ _ _ _ ?_
        cases e3:withinK ks[i] a b with
        | false =>
          rw [if_pos e3] at hinv
          simp only [stc,A_,simprocAttr,ne_eq,(Uz5 _).1,CHK_,Nat.reduceBEq,e3,hw]
          exact ih (i + 1,[],G,.s .nilS) _ _ _ (by show ks.length - (i + 1) < ks.length - i; omega) ⟨by show i + 1≤ks.length; omega,by show 0≤i + 1; omega,.inl ⟨rfl,rfl⟩,hinv⟩ rfl tk3 rfl
        | true =>
          rw [if_neg (by rw [e3]; simp)] at hinv
          simp only [stc,A_,simprocAttr,ne_eq,(Uz5 _).1,CHK_,Nat.reduceBEq,e3,hw]
          refine h2' _ _ _ t.app fun G' => ?_
          cases e4:(getS Q ks[i] s).2 with
          | false =>
            rw [if_neg (by rw [e4]; simp)] at hinv
            simp only [stc,A_,simprocAttr,ne_eq,(Uz5 _).1,CHK_,Nat.reduceBEq,e4,hw]
            exact ih (i + 1,[],G ++ G',.s .nilS) _ _ _ (by show ks.length - (i + 1) < ks.length - i; omega) ⟨by show i + 1≤ks.length; omega,by show 0≤i + 1; omega,.inl ⟨rfl,rfl⟩,hinv⟩ rfl tk3 rfl
          | true =>
            rw [if_pos e4] at hinv
            simp only [stc,A_,simprocAttr,ne_eq,(Uz5 _).1,CHK_,Nat.reduceBEq,e4,hw,hitc,itc_length,itc_under,ha0]
            exact ih (i + 1,[⟨ks[i],(getS Q ks[i] s).1⟩],G ++ G',.list .uniq 17 ([⟨ks[i],(getS Q ks[i] s).1⟩].map itA)) _ _ _ (by show ks.length - (i + 1) < ks.length - i; omega) ⟨by show i + 1≤ks.length; omega,by show 1≤i + 1; omega,.inr (.inl rfl),hinv⟩ rfl tk3 rfl
      · rcases hv with rfl | rfl
        all_goals
          simp only [stc,A_,simprocAttr,ne_eq,(Uz5 _).1,CHK_,Nat.reduceBEq,hlt,h16,hm]
          refine h1 _ _ _ _ _ _ ?_
          cases e3:withinK ks[i] a b with
          | false =>
            rw [if_pos e3] at hinv
            simp only [stc,A_,simprocAttr,ne_eq,(Uz5 _).1,CHK_,Nat.reduceBEq,e3,hw]
            exact ih (i + 1,acc,G,.list .own 17 (acc.map itA)) _ _ _ (by show ks.length - (i + 1) < ks.length - i; omega) ⟨by show i + 1≤ks.length; omega,by show acc.length≤i + 1; omega,.inr (.inr rfl),hinv⟩ rfl tk3 rfl
          | true =>
            rw [if_neg (by rw [e3]; simp)] at hinv
            simp only [stc,A_,simprocAttr,ne_eq,(Uz5 _).1,CHK_,Nat.reduceBEq,e3,hw]
            refine h2' _ _ _ t.app fun G' => ?_
            cases e4:(getS Q ks[i] s).2 with
            | false =>
              rw [if_neg (by rw [e4]; simp)] at hinv
              simp only [stc,A_,simprocAttr,ne_eq,(Uz5 _).1,CHK_,Nat.reduceBEq,e4,hw]
              exact ih (i + 1,acc,G ++ G',.list .own 17 (acc.map itA)) _ _ _ (by show ks.length - (i + 1) < ks.length - i; omega) ⟨by show i + 1≤ks.length; omega,by show acc.length≤i + 1; omega,.inr (.inr rfl),hinv⟩ rfl tk3 rfl
            | true =>
              rw [if_pos e4] at hinv
              simp only [stc,A_,simprocAttr,ne_eq,(Uz5 _).1,CHK_,Nat.reduceBEq,e4,hw,hitc,itc_length,itc_under,ha]
              exact ih (i + 1,acc ++ [(⟨ks[i],(getS Q ks[i] s).1⟩:It)],G ++ G',.list .own 17 ((acc ++ [(⟨ks[i],(getS Q ks[i] s).1⟩:It)]).map itA)) _ _ _ (by show ks.length - (i + 1) < ks.length - i; omega) ⟨by show i + 1≤ks.length; omega,by show (acc ++ [(⟨ks[i],(getS Q ks[i] s).1⟩:It)]).length≤i + 1; simp; omega,.inr (.inr rfl),hinv⟩ rfl tk3 rfl
  · have hlt:¬((i:Int) < (ks.length:Int)):=by omega
    rw [List.drop_of_length_le (by omega),scanF] at hinv
    rw [hinv] at hK
    rcases hv with ⟨rfl,rfl⟩ | rfl | rfl
    all_goals simp only [A_,simprocAttr,ne_eq,(Uz5 _).1,CHK_,Nat.reduceBEq,hlt]
    · exact hK _ _ (.inl ⟨rfl,rfl⟩)
    · exact hK _ _ (.inr (.inl rfl))
    · exact hK _ _ (.inr (.inr rfl))
end Go.AM
namespace Go.AM
open Go
set_option maxRecDepth 20000
def y41a1:LCode:=(.seq (.sq [(zv 3 0),(zs 4 (.build [(.s (.int .i64 0)),(.s (.int .u8 0))] [(0,1,(.t 3))])),(zn (.store 2 (.t 2) (.t 4)))]) .ret)
def Uz2s:=PLift.up (@unfC _ _ (y41a1.eq_1))
def Cz1i:LFn:=⟨5,[.many 2 2],(.seq (.sq [(zs 2 (.alloc false [(.s (.int .i64 0)),(.s (.int .u8 0))]))]) y41a1)⟩
def y41b1 (c:Nat→FuncId):LCode:=(.seq (.sq [(zv 6 0),(zs 7 (.call (.f (c 0)) [(.t 6)])),(zv 5 7),(zs 8 (.ext (.t 5) 0)),(zs 9 (.ext (.t 5) 1)),(zs 3 (.alloc false zk)),(zn (.store 16 (.t 3) (.t 8))),(zs 4 (.mv true (.t 9)))]) (.seq (.sq [(zs 10 (.loadA 16 (.t 3))),(zn (.store 16 (.t 2) (.t 10)))]) .ret))
def Uz22 (c:Nat→FuncId):=PLift.up (@unfC _ _ (y41b1.eq_1 c))
def Cz1l (c:Nat→FuncId):LFn:=⟨11,[.many 2 16],(.seq (.sq [(zs 2 (.alloc false zk))]) (y41b1 c))⟩
def y41c1 (c:Nat→FuncId):LCode:=(.seq (.sq [(zv 30 2),(zs 31 (.bin .eql .sc (.t 30) (zi 0))),(zv 32 31),(zt 33 32 (.mv false (.t 4))),(zt 34 32 (.un .not (.t 33))),(zs 35 (.pick (.t 32) (.t 34) zF)),(zv 36 35),(zt 37 36 (.mv false (.t 6))),(zs 38 (.pick (.t 36) (.t 37) zF)),(zv 39 38),(zt 40 39 (.mv false (.t 5))),(zt 41 39 (.bin .eql .sc (.t 40) (.c (.str [120])))),(zs 42 (.pick (.t 39) (.t 41) zF)),(zv 43 42),(zt 44 43 (.mv false (.t 1))),(zt 45 43 (.call (.f (c 5)) [(.t 44)])),(zt 46 43 (.len .sl (.t 45))),(zt 47 43 (.bin .eql .sc (.t 46) (zi 1))),(zs 48 (.pick (.t 43) (.t 47) zF)),(zs 0 (.mv true (.t 48)))]) .ret)
def y41c2 (c:Nat→FuncId):LCode:=(.seq (.sq [(zv 24 1),(zs 25 (.call (.f (c 2)) [(.c (.str [97]))])),(zs 26 (.call (.f (c 1)) [(zi 2)])),(zs 27 (.call (.f (c 4)) [(.t 24),(.t 25),(.t 26)])),(zv 23 27),(zs 28 (.ext (.t 23) 0)),(zs 29 (.ext (.t 23) 1)),(zs 5 (.mv true (.t 28))),(zs 6 (.mv true (.t 29)))]) (y41c1 c))
def y41c3 (c:Nat→FuncId):LCode:=(.seq (.sq [(zv 17 1),(zs 18 (.call (.f (c 2)) [(.c (.str [97]))])),(zs 19 (.build [(.s (.int .i64 0)),(.s (.int .u8 0))] [(0,1,(zi 1)),(1,1,(.c (.int .u8 9)))])),(zs 20 (.call (.f (c 4)) [(.t 17),(.t 18),(.t 19)])),(zv 16 20),(zs 21 (.ext (.t 16) 0)),(zs 22 (.ext (.t 16) 1)),(zs 3 (.mv true (.t 21))),(zs 4 (.mv true (.t 22)))]) (y41c2 c))
def y41c4 (c:Nat→FuncId):LCode:=(.seq (.sq [(zv 10 1),(zs 11 (.call (.f (c 1)) [(zi 2)])),(zs 12 (.call (.f (c 2)) [(.c (.str [97]))])),(zs 13 (.build (zk ++ [(.s (.str [])),(.s (.bool false))]) [(0,16,(.t 12)),(16,1,(.c (.str [120])))])),(zs 14 (.bsl ⟨18,true,40,(.agg (zk ++ [(.s (.str [])),(.s (.bool false))]))⟩ 1 [(0,(.t 13))])),(zs 15 (.call (.f (c 3)) [(.t 10),(.t 11),(.t 14)])),(zs 2 (.mv true (.t 15)))]) (y41c3 c))
def y41c5 (c:Nat→FuncId):LCode:=(.seq (.seq (.sq [(zv 8 1),(zs 9 (.bin .eql (.ref 0) (.t 8) (.c .nilP)))]) (.cond (.t 9) (.seq (.sq [(zs 0 (.mv true zF))]) .ret) .skip)) (y41c4 c))
def Uz7 (c:Nat→FuncId):=PLift.up (zc (zc (@unfC _ _ (y41c1.eq_1 c)) (@unfC _ _ (y41c2.eq_1 c))) (zc (@unfC _ _ (y41c3.eq_1 c)) (zc (@unfC _ _ (y41c4.eq_1 c)) (@unfC _ _ (y41c5.eq_1 c)))))
def Cz4 (c:Nat→FuncId):LFn:=⟨49,[.t 0],(.seq (.sq [(zs 0 (.mv true zF))]) (.seq (.sq [(zs 7 (.call (.f (c 0)) [])),(zs 1 (.mv true (.t 7)))]) (y41c5 c)))⟩
def y41g1:LCode:=(.sq [(zv 15 5),(zs 16 (.bin .add .sc (.t 15) (zi 1))),(zs 5 (.mv true (.t 16)))])
def y41g2:LCode:=(.seq (.block 1 (.seq (.tree (.rd (zv 17 0) 0 false (.rd (zv 18 5) 1 false (.rd (zs 19 (.ixa (.sl 16) (.t 17) (.t 18))) 2 false (.rd (zs 20 (.loadA 16 (.t 19))) 3 false (.rd (zv 21 1) 4 false (.rd (zv 22 5) 5 false (.rd (zs 23 (.ixa (.sl 16) (.t 21) (.t 22))) 6 false (.rd (zs 24 (.loadA 16 (.t 23))) 7 false (.rd (zs 25 (.bin .neq (.leaf lk) (.t 20) (.t 24))) 8 false .done)))))))))) (.cond (.t 25) (.seq (.sq [(zs 4 (.mv true zF))]) .ret) .skip))) y41g1)
def y41g3:LCode:=(.seq (.seq (.sq [(zv 11 5),(zv 12 0),(zs 13 (.len .sl (.t 12))),(zs 14 (.bin .lss .sc (.t 11) (.t 13)))]) (.cond (.t 14) .skip (.exit 0))) y41g2)
def y41g4:LCode:=(.block 0 (.loop (zm false [0,2,3,1,20]) y41g3))
def y41g5:LCode:=(.seq (.seq (.sq [(zs 5 (.mv true (zi 0)))]) y41g4) (.seq (.sq [(zs 4 (.mv true zT))]) .ret))
def y41g6:LCode:=(.seq (.seq (.sq [(zv 6 0),(zs 7 (.len .sl (.t 6))),(zv 8 1),(zs 9 (.len .sl (.t 8))),(zs 10 (.bin .neq .sc (.t 7) (.t 9)))]) (.cond (.t 10) (.seq (.sq [(zs 4 (.mv true zF))]) .ret) .skip)) y41g5)
def Uzq:=PLift.up (zc (zc (@unfC _ _ (y41g1.eq_1)) (zc (@unfC _ _ (y41g2.eq_1)) (@unfC _ _ (y41g3.eq_1)))) (zc (@unfC _ _ (y41g4.eq_1)) (zc (@unfC _ _ (y41g5.eq_1)) (@unfC _ _ (y41g6.eq_1)))))
def Cz11:LFn:=⟨26,[.t 4],(.seq (.sq [(zs 4 (.mv true zF))]) y41g6)⟩
def y41m1 (c:Nat→FuncId):LCode:=(.seq (.tree (.rd (zv 82 2) 0 false (.rd (zs 83 (.bin .eql .sc (.t 82) (zi 1))) 1 false (.rd (zv 84 83) 2 false (.rd (zt 85 84 (.mv false (.t 3))) 3 false (.rd (zt 86 84 (.bin .eql .sc (.t 85) (zi 1))) 4 false (.rd (zs 87 (.pick (.t 84) (.t 86) zF)) 5 false (.rd (zv 88 87) 6 false (.rd (zt 89 88 (.mv false (.t 4))) 7 false (.rd (zt 90 88 (.bin .eql .sc (.t 89) (zi 1))) 8 false (.rd (zs 91 (.pick (.t 88) (.t 90) zF)) 9 false (.rd (zv 92 91) 10 false (.rd (zt 93 92 (.mv false (.t 5))) 11 false (.rd (zt 94 92 (.bin .eql .sc (.t 93) (zi 5))) 12 false (.rd (zs 95 (.pick (.t 92) (.t 94) zF)) 13 false (.rd (zv 96 95) 14 false (.rd (zt 97 96 (.mv false (.t 6))) 15 false (.rd (zt 98 96 (.len .sl (.t 97))) 16 false (.rd (zt 99 96 (.bin .eql .sc (.t 98) (zi 2))) 17 false (.rd (zs 100 (.pick (.t 96) (.t 99) zF)) 18 false (.rd (zv 101 100) 19 false (.rd (zt 102 101 (.mv false (.t 6))) 20 true (.rd (zt 103 101 (.ixa (.sl 17) (.t 102) (zi 0))) 21 true (.rd (zt 104 101 (.shift 0 (.t 103))) 22 true (.rd (zt 105 101 (.loadA 16 (.t 104))) 23 true (.mv (zt 106 101 (.call (.f (c 4)) [(.c (.str [97]))])) [0,1,2,3,4,5,6,7,8,9,10,11,12,13,14,15,16,17,18,19] (.rd (zt 107 101 (.bin .eql (.leaf lk) (.t 105) (.t 106))) 25 false (.rd (zs 108 (.pick (.t 101) (.t 107) zF)) 26 false (.rd (zv 109 108) 27 false (.rd (zt 110 109 (.mv false (.t 6))) 28 false (.rd (zt 111 109 (.ixa (.sl 17) (.t 110) (zi 1))) 29 false (.rd (zt 112 109 (.shift 16 (.t 111))) 30 false (.rd (zt 113 109 (.load1 false (.t 112))) 31 false (.rd (zt 114 109 (.bin .eql .sc (.t 113) (.c (.str [49])))) 32 false (.rd (zs 115 (.pick (.t 109) (.t 114) zF)) 33 false (.rd (zv 116 115) 34 false (.rd (zt 117 116 (.mv false (.t 7))) 35 false (.rd (zt 118 116 (.len .sl (.t 117))) 36 false (.rd (zt 119 116 (.bin .eql .sc (.t 118) (zi 1))) 37 false (.rd (zs 120 (.pick (.t 116) (.t 119) zF)) 38 false (.rd (zv 121 120) 39 false (.rd (zt 122 121 (.mv false (.t 7))) 40 false (.rd (zt 123 121 (.ixa (.sl 17) (.t 122) (zi 0))) 41 false (.rd (zt 124 121 (.shift 16 (.t 123))) 42 false (.rd (zt 125 121 (.load1 false (.t 124))) 43 false (.rd (zt 126 121 (.bin .eql .sc (.t 125) (.c (.str [50])))) 44 false (.rd (zs 127 (.pick (.t 121) (.t 126) zF)) 45 false (.rd (zv 128 127) 46 false (.rd (zt 129 128 (.mv false (.t 9))) 47 false (.rd (zs 130 (.pick (.t 128) (.t 129) zF)) 48 false (.rd (zv 131 130) 49 false (.rd (zt 132 131 (.loadA 2 (.t 8))) 50 true (.mv (zt 133 131 (.call (.f (c 2)) [(zi 3)])) [0,1,2,3,4,5,6,7,8,9,10,11,12,13,14,15,16,17,18,19,20,21,22,23,24,25,26,27,28,29,30,31,32,33,34,35,36,37,38,39,40,41,42,43,44,45,46,47,48,49] (.rd (zt 134 131 (.bin .eql (.leaf [.int .i64,.int .u8]) (.t 132) (.t 133))) 52 false (.rd (zs 135 (.pick (.t 131) (.t 134) zF)) 53 false (.rd (zv 136 135) 54 false (.rd (zt 137 136 (.mv false (.t 10))) 55 false (.rd (zt 138 136 (.bin .eql .sc (.t 137) (zi 2))) 56 false (.rd (zs 139 (.pick (.t 136) (.t 138) zF)) 57 false (.rd (zv 140 139) 58 false (.rd (zt 141 140 (.mv false (.t 12))) 59 false (.rd (zt 142 140 (.un .not (.t 141))) 60 false (.rd (zs 143 (.pick (.t 140) (.t 142) zF)) 61 false (.rd (zv 144 143) 62 false (.rd (zt 145 144 (.mv false (.t 1))) 63 false (.mv (zt 146 144 (.call (.f (c 8)) [(.t 145)])) [0,1,2,3,4,5,6,7,8,9,10,11,12,13,14,15,16,17,18,19,20,21,22,23,24,25,26,27,28,29,30,31,32,33,34,35,36,37,38,39,40,41,42,43,44,45,46,47,48,49,50,51,52,53,54,55,56,57,58,59,60,61,62,63] (.mv (zt 147 144 (.call (.f (c 4)) [(.c (.str [97]))])) [0,1,2,3,4,5,6,7,8,9,10,11,12,13,14,15,16,17,18,19,20,21,22,23,24,25,26,27,28,29,30,31,32,33,34,35,36,37,38,39,40,41,42,43,44,45,46,47,48,49,50,51,52,53,54,55,56,57,58,59,60,61,62,63,64] (.mv (zt 148 144 (.call (.f (c 4)) [(.c (.str [99]))])) [0,1,2,3,4,5,6,7,8,9,10,11,12,13,14,15,16,17,18,19,20,21,22,23,24,25,26,27,28,29,30,31,32,33,34,35,36,37,38,39,40,41,42,43,44,45,46,47,48,49,50,51,52,53,54,55,56,57,58,59,60,61,62,63,64,65] (.rd (zt 149 144 (.bsl ⟨16,true,16,(.agg zk)⟩ 2 [(0,(.t 147)),(1,(.t 148))])) 67 false (.mv (zt 150 144 (.call (.f (c 9)) [(.t 146),(.t 149)])) [0,1,2,3,4,5,6,7,8,9,10,11,12,13,14,15,16,17,18,19,20,21,22,23,24,25,26,27,28,29,30,31,32,33,34,35,36,37,38,39,40,41,42,43,44,45,46,47,48,49,50,51,52,53,54,55,56,57,58,59,60,61,62,63,64,65,66,67] (.rd (zs 151 (.pick (.t 144) (.t 150) zF)) 69 false (.rd (zv 152 151) 70 false (.rd (zt 153 152 (.mv false (.t 1))) 71 true (.rd (zt 155 152 (.build zk [])) 73 true (.mv (zt 154 152 (.call (.f (c 4)) [(.c (.str [97]))])) [0,1,2,3,4,5,6,7,8,9,10,11,12,13,14,15,16,17,18,19,20,21,22,23,24,25,26,27,28,29,30,31,32,33,34,35,36,37,38,39,40,41,42,43,44,45,46,47,48,49,50,51,52,53,54,55,56,57,58,59,60,61,62,63,64,65,66,67,68,69,70] (.mv (zt 156 152 (.call (.f (c 2)) [(zi 9)])) [0,1,2,3,4,5,6,7,8,9,10,11,12,13,14,15,16,17,18,19,20,21,22,23,24,25,26,27,28,29,30,31,32,33,34,35,36,37,38,39,40,41,42,43,44,45,46,47,48,49,50,51,52,53,54,55,56,57,58,59,60,61,62,63,64,65,66,67,68,69,70,72] (.mv (zt 157 152 (.call (.f (c 5)) [(.t 153),(.t 154),(.t 155),(.t 156),(.c (.int .i64 (-1)))])) [0,1,2,3,4,5,6,7,8,9,10,11,12,13,14,15,16,17,18,19,20,21,22,23,24,25,26,27,28,29,30,31,32,33,34,35,36,37,38,39,40,41,42,43,44,45,46,47,48,49,50,51,52,53,54,55,56,57,58,59,60,61,62,63,64,65,66,67,68,69,70,71,72,73,74] (.rd (zt 158 152 (.len .sl (.t 157))) 76 false (.rd (zt 159 152 (.bin .eql .sc (.t 158) (zi 0))) 77 false (.rd (zs 160 (.pick (.t 152) (.t 159) zF)) 78 false (.mv (zs 0 (.mv true (.t 160))) [0,1,2,3,4,5,6,7,8,9,10,11,12,13,14,15,16,17,18,19,20,21,22,23,24,25,26,27,28,29,30,31,32,33,34,35,36,37,38,39,40,41,42,43,44,45,46,47,48,49,50,51,52,53,54,55,56,57,58,59,60,61,62,63,64,65,66,67,68,69,70,71,72,73,74,75,76,77,78] .done .stop)))) .stop) .stop) .stop))))) .stop)) .stop) .stop) .stop))))))))))))) .stop))))))))))))))))))))))))))) .stop)))))))))))))))))))))))))) .ret)
def y41m2 (c:Nat→FuncId):LCode:=(.seq (.sq [(zv 77 1),(zs 78 (.call (.f (c 4)) [(.c (.str [98]))])),(zs 79 (.call (.f (c 6)) [(.t 77),(.t 78)])),(zv 76 79),(zs 80 (.ext (.t 76) 0)),(zs 81 (.ext (.t 76) 1)),(zs 11 (.alloc false [(.s (.int .i64 0)),(.s (.int .u8 0))])),(zn (.store 2 (.t 11) (.t 80))),(zs 12 (.mv true (.t 81)))]) (y41m1 c))
def y41m3 (c:Nat→FuncId):LCode:=(.seq (.sq [(zv 73 1),(zs 74 (.call (.f (c 2)) [(zi 3)])),(zs 75 (.call (.f (c 7)) [(.t 73),(.t 74)])),(zs 10 (.mv true (.t 75)))]) (y41m2 c))
def y41m4 (c:Nat→FuncId):LCode:=(.seq (.sq [(zv 68 1),(zs 69 (.call (.f (c 4)) [(.c (.str [98]))])),(zs 70 (.call (.f (c 6)) [(.t 68),(.t 69)])),(zv 67 70),(zs 71 (.ext (.t 67) 0)),(zs 72 (.ext (.t 67) 1)),(zs 8 (.alloc false [(.s (.int .i64 0)),(.s (.int .u8 0))])),(zn (.store 2 (.t 8) (.t 71))),(zs 9 (.mv true (.t 72)))]) (y41m3 c))
def y41m5 (c:Nat→FuncId):LCode:=(.seq (.sq [(zv 62 1),(zs 63 (.call (.f (c 4)) [(.c (.str [97]))])),(zs 64 (.call (.f (c 4)) [(.c (.str [99]))])),(zs 65 (.call (.f (c 2)) [(zi 3)])),(zs 66 (.call (.f (c 5)) [(.t 62),(.t 63),(.t 64),(.t 65),(zi 9)])),(zs 7 (.mv true (.t 66)))]) (y41m4 c))
def y41m6 (c:Nat→FuncId):LCode:=(.seq (.sq [(zv 57 1),(zs 58 (.call (.f (c 4)) [(.c (.str [97]))])),(zs 59 (.build zk [])),(zs 60 (.call (.f (c 2)) [(zi 2)])),(zs 61 (.call (.f (c 5)) [(.t 57),(.t 58),(.t 59),(.t 60),(zi 2)])),(zs 6 (.mv true (.t 61)))]) (y41m5 c))
def y41m7 (c:Nat→FuncId):LCode:=(.seq (.sq [(zv 51 1),(zs 52 (.call (.f (c 2)) [(zi 3)])),(zs 53 (.call (.f (c 4)) [(.c (.str [98]))])),(zs 54 (.build (zk ++ [(.s (.str [])),(.s (.bool false))]) [(0,16,(.t 53)),(17,1,zT)])),(zs 55 (.bsl ⟨18,true,40,(.agg (zk ++ [(.s (.str [])),(.s (.bool false))]))⟩ 1 [(0,(.t 54))])),(zs 56 (.call (.f (c 3)) [(.t 51),(.t 52),(.t 55)]))]) (y41m6 c))
def y41m8 (c:Nat→FuncId):LCode:=(.seq (.sq [(zv 43 1),(zs 44 (.call (.f (c 2)) [(zi 1)])),(zs 45 (.call (.f (c 4)) [(.c (.str [122]))])),(zs 46 (.build (zk ++ [(.s (.str [])),(.s (.bool false))]) [(0,16,(.t 45))])),(zs 47 (.call (.f (c 4)) [(.c (.str [97]))])),(zs 48 (.build (zk ++ [(.s (.str [])),(.s (.bool false))]) [(0,16,(.t 47))])),(zs 49 (.bsl ⟨18,true,40,(.agg (zk ++ [(.s (.str [])),(.s (.bool false))]))⟩ 2 [(0,(.t 46)),(1,(.t 48))])),(zs 50 (.call (.f (c 3)) [(.t 43),(.t 44),(.t 49)])),(zs 5 (.mv true (.t 50)))]) (y41m7 c))
def y41m9 (c:Nat→FuncId):LCode:=(.seq (.sq [(zv 33 1),(zs 34 (.call (.f (c 2)) [(zi 1)])),(zs 35 (.call (.f (c 4)) [(.c (.str [98]))])),(zs 36 (.build (zk ++ [(.s (.str [])),(.s (.bool false))]) [(0,16,(.t 35)),(16,1,(.c (.str [49])))])),(zs 37 (.call (.f (c 4)) [(.c (.str [97]))])),(zs 38 (.build (zk ++ [(.s (.str [])),(.s (.bool false))]) [(0,16,(.t 37)),(16,1,(.c (.str [50])))])),(zs 39 (.call (.f (c 4)) [(.c (.str [99]))])),(zs 40 (.build (zk ++ [(.s (.str [])),(.s (.bool false))]) [(0,16,(.t 39)),(16,1,(.c (.str [51])))])),(zs 41 (.bsl ⟨18,true,40,(.agg (zk ++ [(.s (.str [])),(.s (.bool false))]))⟩ 3 [(0,(.t 36)),(1,(.t 38)),(2,(.t 40))])),(zs 42 (.call (.f (c 3)) [(.t 33),(.t 34),(.t 41)]))]) (y41m8 c))
def y41m10 (c:Nat→FuncId):LCode:=(.seq (.sq [(zv 27 1),(zs 28 (.call (.f (c 2)) [(.c (.int .i64 (-1)))])),(zs 29 (.call (.f (c 4)) [(.c (.str [97]))])),(zs 30 (.build (zk ++ [(.s (.str [])),(.s (.bool false))]) [(0,16,(.t 29))])),(zs 31 (.bsl ⟨18,true,40,(.agg (zk ++ [(.s (.str [])),(.s (.bool false))]))⟩ 1 [(0,(.t 30))])),(zs 32 (.call (.f (c 3)) [(.t 27),(.t 28),(.t 31)])),(zs 4 (.mv true (.t 32)))]) (y41m9 c))
def y41m11 (c:Nat→FuncId):LCode:=(.seq (.sq [(zv 19 1),(zs 20 (.call (.f (c 2)) [(zi 1)])),(zs 21 (.call (.f (c 4)) [(.c (.str [97]))])),(zs 22 (.build (zk ++ [(.s (.str [])),(.s (.bool false))]) [(0,16,(.t 21))])),(zs 23 (.call (.f (c 4)) [(.c (.str [97]))])),(zs 24 (.build (zk ++ [(.s (.str [])),(.s (.bool false))]) [(0,16,(.t 23))])),(zs 25 (.bsl ⟨18,true,40,(.agg (zk ++ [(.s (.str [])),(.s (.bool false))]))⟩ 2 [(0,(.t 22)),(1,(.t 24))])),(zs 26 (.call (.f (c 3)) [(.t 19),(.t 20),(.t 25)])),(zs 3 (.mv true (.t 26)))]) (y41m10 c))
def y41m12 (c:Nat→FuncId):LCode:=(.seq (.sq [(zv 16 1),(zs 17 (.call (.f (c 2)) [(zi 1)])),(zs 18 (.call (.f (c 3)) [(.t 16),(.t 17),(.c .nilS)])),(zs 2 (.mv true (.t 18)))]) (y41m11 c))
def y41m13 (c:Nat→FuncId):LCode:=(.seq (.sq [(zs 15 (.call (.f (c 1)) [])),(zs 1 (.mv true (.t 15)))]) (y41m12 c))
def y41m14 (c:Nat→FuncId):LCode:=(.seq (.seq (.sq [(zs 13 (.call (.f (c 0)) [])),(zs 14 (.un .not (.t 13)))]) (.cond (.t 14) (.seq (.sq [(zs 0 (.mv true zF))]) .ret) .skip)) (y41m13 c))
def Uz1 (c:Nat→FuncId):=PLift.up (zc (zc (zc (@unfC _ _ (y41m1.eq_1 c)) (zc (@unfC _ _ (y41m2.eq_1 c)) (@unfC _ _ (y41m3.eq_1 c)))) (zc (zc (@unfC _ _ (y41m4.eq_1 c)) (@unfC _ _ (y41m5.eq_1 c))) (zc (@unfC _ _ (y41m6.eq_1 c)) (@unfC _ _ (y41m7.eq_1 c))))) (zc (zc (@unfC _ _ (y41m8.eq_1 c)) (zc (@unfC _ _ (y41m9.eq_1 c)) (@unfC _ _ (y41m10.eq_1 c)))) (zc (zc (@unfC _ _ (y41m11.eq_1 c)) (@unfC _ _ (y41m12.eq_1 c))) (zc (@unfC _ _ (y41m13.eq_1 c)) (@unfC _ _ (y41m14.eq_1 c))))))
def Cz0 (c:Nat→FuncId):LFn:=⟨161,[.t 0],(.seq (.sq [(zs 0 (.mv true zF))]) (y41m14 c))⟩
end Go.AM
namespace Go.AM
open Go
set_option maxRecDepth 20000
def AtS (C:CallW) (f:FuncId):Prop:=∀t:Int,FnS C f [.s (.int .i64 t)] (.agg (stc ⟨t,0⟩))
def ofV (id snap t:Int) (s v:List UInt8):AV := .agg [.s (.int .i64 id),.s (.int .i64 snap),u8 0,.s (.int .i64 t),u8 0,.s (.bool true),.s .nilS,.list .full 18 [.agg (wc ⟨(keyOf s).1,v,false⟩)]]
end Go.AM
namespace Go.AM
open Go
set_option maxRecDepth 20000
theorem law12_k_spec {C:CallW} (P:Program) {c:Nat→FuncId} (hf:OfR C (c 0)):∀(s:List UInt8) (S:List (List AV)) (H:List HObj) (K:AV→St→Prop),K (.agg (bs (keyOf s).1.b)) ⟨S,H⟩→runL C P (Cz1l c) [.s (.str s)] ⟨S,H⟩ K:=by
  intro s S H K hK
  simp only [Cz1l,A_,simprocAttr,ne_eq,(Uz22 _).1]
  refine hf _ _ _ _ ?_
  simp only [A_,simprocAttr,ne_eq,(Uz22 _).1]
  exact hK
theorem law12_at_spec {C:CallW} (P:Program):∀(t:Int) S H (K:AV→St→Prop),K (.agg (stc ⟨t,0⟩)) ⟨S,H⟩→runL C P Cz1i [.s (.int .i64 t)] ⟨S,H⟩ K:=by
  intro t S H K hK
  simp only [Cz1i,A_,simprocAttr,ne_eq,Uz2s.1]
  exact hK
structure SAct where
  op:Int
  stp:Stp
  l:List Wr
theorem w1_wk {a b:AV} {w:Wr}:WkF [a,b,.list .full 18 [.agg (wc w)]] [a,b,lstW [w]] := .same (.same (.wk (show WkL [.list .full 18 [wA w]] [lstW [w]] from .full .nil) .nil))
def AwSS (C:CallW) (f:FuncId):Prop:=∀S H (K:AV→St→Prop),(∀H',K (.bool true) ⟨S,H'⟩)→C (.fn f) [] ⟨S,H⟩ K
def kAa:Key:=(keyOf [97]).1
theorem aw_app:appQ [] ⟨2,0⟩ [⟨kAa,[120],false⟩]=(0,[(kAa,[⟨⟨2,0⟩,[120],false⟩])]):=by kernel_rfl
theorem aw_get1:getS [(kAa,[⟨⟨2,0⟩,[120],false⟩])] kAa ⟨1,9⟩=([],false):=by kernel_rfl
theorem aw_get2:getS [(kAa,[⟨⟨2,0⟩,[120],false⟩])] kAa ⟨2,0⟩=([120],true):=by kernel_rfl
set_option maxHeartbeats 8000000 in
theorem law12_awake_spec {C:CallW} (hW:WkC C) (P:Program) {c:Nat→FuncId} (h0:StNewS C (c 0)) (h1:AtS C (c 1)) (h2:kS C (c 2)) (h3:ApplyS C (c 3)) (h4:StGetS C (c 4)) (h5:StKeysS C (c 5)):∀S H (K:AV→St→Prop),(∀H',K (.bool true) ⟨S,H'⟩)→runL C P (Cz4 c) [] ⟨S,H⟩ K:=by
  intro S H K hK
  have hk:(keyOf [97]).1=kAa:=rfl
  simp only [Cz4,A_,simprocAttr,ne_eq,(Uz7 _).1]
  refine h0 _ _ _ fun H1 h O t1 _ => ?_
  simp only [Cz4,A_,simprocAttr,ne_eq,(Uz7 _).1,re1F]
  refine h1 2 _ _ _ ?_
  simp only [Cz4,A_,simprocAttr,ne_eq,(Uz7 _).1]
  refine h2 _ _ _ _ ?_
  rw [hk]
  simp only [Cz4,A_,simprocAttr,ne_eq,(Uz7 _).1]
  refine hW _ _ _ _ _ (w1_wk (w:=⟨kAa,[120],false⟩)) (h3 h [] O ⟨2,0⟩ [⟨kAa,[120],false⟩] _ _ _ t1 (by simp) (by simp) fun H2 O2 t2 _ => ?_)
  rw [aw_app] at t2 ⊢
  dsimp only at t2
  simp only [Cz4,A_,simprocAttr,ne_eq,(Uz7 _).1]
  refine h2 _ _ _ _ ?_
  rw [hk]
  have e19:[AV.s (.int .i64 1),.s (.int .u8 9)]=stc ⟨1,9⟩:=rfl
  simp only [Cz4,A_,simprocAttr,ne_eq,(Uz7 _).1,e19]
  refine h4 h _ O2 kAa ⟨1,9⟩ _ _ _ t2 fun G => ?_
  rw [aw_get1]
  simp only [Cz4,A_,simprocAttr,ne_eq,(Uz7 _).1]
  refine h2 _ _ _ _ ?_
  rw [hk]
  simp only [Cz4,A_,simprocAttr,ne_eq,(Uz7 _).1]
  refine h1 2 _ _ _ ?_
  simp only [Cz4,A_,simprocAttr,ne_eq,(Uz7 _).1]
  refine h4 h _ O2 kAa ⟨2,0⟩ _ _ _ t2.app fun G2 => ?_
  rw [aw_get2]
  simp only [Cz4,A_,simprocAttr,ne_eq,(Uz7 _).1]
  refine h5 h _ O2 _ _ _ t2.app (by simp) fun G3 => ?_
  have hl:(keysQ [(kAa,[(⟨⟨2,0⟩,[120],false⟩:Ver)])]).length=1:=by rw [(keysQ_perm _).length_eq]; rfl
  simp only [lstK,List.length_map,hl,Cz4,A_,simprocAttr,ne_eq,(Uz7 _).1]
  exact hK _
end Go.AM
namespace Go.AM
open Go
set_option maxRecDepth 20000
def QP (Q:Sto):Prop:=(Q.map Prod.fst).Nodup∧∀k,SorV (ofQ Q k)
end Go.AM
namespace Go.AM
open Go
set_option maxRecDepth 20000
theorem del_sub {kk:KK} {h c:Nat} {k:AV} {es es':List Entry} {S:List (List AV)} {H:List HObj} (hm:H[h]? = some (.map es c)) (e:deleteL kk (.map h) k ⟨S,H⟩=some ⟨S,H.set h (.map es' c)⟩):∀x∈es',x∈es:=by
  have hmo:mapOf ⟨S,H⟩ (.map h)=some (es,c):=by simp [mapOf,hm]
  have hinj:∀{a b:List Entry},H.set h (.map a c)=H.set h (.map b c)→a=b:=fun {a b} q=>by
    have:=congrArg (fun l=>l[h]?) q
    simp only [List.getElem?_set_self (hlt hm)] at this
    injection this with this
    injection this
  unfold deleteL at e
  split at e
  · simp only [hmo] at e
    split at e
    · rename_i i x hf
      simp only [setMap,Option.some.injEq,St.mk.injEq,true_and] at e
      rw [←hinj e]
      exact fun x hx=>List.mem_of_mem_eraseIdx hx
    · simp only [setMap,Option.some.injEq,St.mk.injEq,true_and] at e
      rw [←hinj e]
      exact fun x hx=>hx
    · cases e
  · cases e
theorem rel_mem {es:List Entry} {l:List CH} (h:RelM kA CH.k chP es l) {e:Entry} (he:e∈es):∃c∈l,e.key=kA c.k∧e.val=chP c:=by
  unfold RelM at h
  have:=List.mem_map_of_mem (f:=fun e:Entry=>(e.key,e.val)) he
  rw [h] at this
  obtain ⟨c,hc,q⟩:=List.mem_map.1 this
  injection q with q1 q2
  exact ⟨c,hc,q1.symm,q2.symm⟩
theorem rel_mem' {es:List Entry} {l:List CH} (h:RelM kA CH.k chP es l) {c:CH} (hc:c∈l):∃e∈es,e.key=kA c.k∧e.val=chP c:=by
  unfold RelM at h
  have:=List.mem_map_of_mem (f:=fun c:CH=>(kA c.k,chP c)) hc
  rw [←h] at this
  obtain ⟨e,he,q⟩:=List.mem_map.1 this
  injection q with q1 q2
  exact ⟨e,he,q1,q2⟩
theorem u8_in2 {a b:UInt8} (h:u8 a=u8 b):a=b:=by
  unfold u8 at h
  injection h with h
  injection h with _ h
  exact UInt8.toNat_inj.1 (by omega)
theorem bs_in2 {a b:List UInt8} (h:bs a=bs b):a=b:=(List.map_inj_right fun _ _=>u8_in2).1 h
theorem kA_in2 {x y:Key} (h:kA x=kA y):x=y:=by
  unfold kA at h
  injection h with h
  exact Key.ext' (bs_in2 h)
theorem ch_one {l:List CH} (h:(l.map CH.k).Nodup) {c d:CH} (hc:c∈l) (hd:d∈l) (e:c.k=d.k):c=d:=by
  obtain ⟨i,hi,rfl⟩:=List.mem_iff_getElem.1 hc
  obtain ⟨j,hj,rfl⟩:=List.mem_iff_getElem.1 hd
  rcases Nat.lt_trichotomy i j with q | q | q
  · have:=List.pairwise_iff_getElem.1 h i j (by simpa using hi) (by simpa using hj) q
    simp at this; exact absurd e this
  · subst q; rfl
  · have:=List.pairwise_iff_getElem.1 h j i (by simpa using hj) (by simpa using hi) q
    simp at this; exact absurd e.symm this
theorem ent_one {es:List Entry} {l:List CH} (h:RelM kA CH.k chP es l) (hn:(l.map CH.k).Nodup) {e f:Entry} (he:e∈es) (hf:f∈es) (hk:e.key=f.key):e=f:=by
  unfold RelM at h
  obtain ⟨i,hi,rfl⟩:=List.mem_iff_getElem.1 he
  obtain ⟨j,hj,rfl⟩:=List.mem_iff_getElem.1 hf
  have hl:es.length=l.length:=by have:=congrArg List.length h; simpa using this
  have key:∀n (hn:n < es.length) (hn':n < l.length),es[n].key=kA l[n].k:=fun n h1 h2=>by
    have:=congrArg (fun z=>z[n]?) h
    simp [h1,h2] at this
    exact this.1
  rw [key i hi (by omega),key j hj (by omega)] at hk
  have hk:=kA_in2 hk
  rcases Nat.lt_trichotomy i j with q | q | q
  · have:=List.pairwise_iff_getElem.1 hn i j (by simp; omega) (by simp; omega) q
    simp at this; exact absurd hk this
  · subst q; rfl
  · have:=List.pairwise_iff_getElem.1 hn j i (by simp; omega) (by simp; omega) q
    simp at this; exact absurd hk.symm this
theorem StG.delc {H:List HObj} {O:List Nat} {h hm:Nat} {l:List CH} (t:StG H O h hm l) {c:CH} (hc:c∈l) {o:HObj} {es:List Entry} {cc:Nat} (hmp:H[hm]? = some (.map es cc)) (g:MapG kA CH.k chP es cc l):∃es',(∀S:List (List AV),deleteL (.leaf lk) (.map hm) (.agg (bs c.k.b)) ⟨S,H.set c.b o⟩=some ⟨S,(H.set c.b o).set hm (.map es' cc)⟩)∧MapG kA CH.k chP es' cc (l.filter fun x=>decide (x.k≠c.k))∧(∀e∈es',e∈es)∧StG ((H.set c.b o).set hm (.map es' cc)) O h hm (l.filter fun x=>decide (x.k≠c.k)):=by
  have hbm:c.b≠hm:=fun q=>by
    have:=t.ch c hc
    rw [q,hmp] at this; cases this
  have hbh:c.b≠h:=fun q=>by
    have:=t.ch c hc
    rw [q,t.at0] at this
    injection this with this
    injection this with this
    injection this with this _
    unfold chK at this
    cases hv:c.vs <;> rw [hv] at this <;> cases this
  have hmh:hm≠h:=fun q=>by
    have:=t.at0
    rw [←q,hmp] at this; cases this
  have hm':(H.set c.b o)[hm]? = some (.map es cc):=hset hbm hmp
  obtain ⟨es',d1,d2⟩:=g.del keyK_key (k:=c.k) hm' t.nk
  have hsub:=del_sub hm' (d1 [])
  refine ⟨es',d1,d2,hsub,?_⟩
  have hin:∀z,z∈l.filter (fun x=>decide (x.k≠c.k))→z∈l∧z.k≠c.k:=fun z hz=>by
    have:=List.mem_filter.1 hz
    exact ⟨this.1,of_decide_eq_true this.2⟩
  refine { at0:=hset hmh (hset hbh t.at0),map:=⟨es',cc,hself hm',d2⟩,ch:=fun z hz => ?_,nk:=t.nk.sublist (List.Sublist.map _ List.filter_sublist),nb:=t.nb.sublist (List.Sublist.map _ List.filter_sublist),ok:=fun z hz=>t.ok z (hin z hz).1,own:=⟨t.own.1,t.own.2.1,fun z hz=>t.own.2.2 z (hin z hz).1⟩,low:=fun i hi => ?_ }
  · obtain ⟨hz1,hz2⟩:=hin z hz
    have hzm:hm≠z.b:=fun q=>by
      have:=t.ch z hz1
      rw [←q,hmp] at this; cases this
    refine hset hzm (hset (fun q => ?_) (t.ch z hz1))
    obtain ⟨i,hi,rfl⟩:=List.mem_iff_getElem.1 hz1
    obtain ⟨j,hj,rfl⟩:=List.mem_iff_getElem.1 hc
    rcases Nat.lt_trichotomy i j with r | r | r
    · have:=List.pairwise_iff_getElem.1 t.nb i j (by simpa using hi) (by simpa using hj) r
      simp at this; exact this q.symm
    · subst r; exact hz2 rfl
    · have:=List.pairwise_iff_getElem.1 t.nb j i (by simpa using hj) (by simpa using hi) r
      simp at this; exact this q
  · rw [List.length_set,List.length_set]; exact t.low i hi
end Go.AM
namespace Go.AM
open Go
open AV renaming undef → uu
set_option maxRecDepth 20000
def trimV (s:Stp) (vs:List Ver):List Ver:=vs.drop (cutV vs s)
def trimC (s:Stp) (c:CH):Option CH:=if trimV s c.vs=[] then none else some { c with vs:=trimV s c.vs }
def visC (s:Stp) (V:List Key) (c:CH):Option CH:=if c.k∈V then trimC s c else some c
def trimQ (Q:Sto) (s:Stp):Sto:=Q.filterMap fun p=>if trimV s p.2=[] then none else some (p.1,trimV s p.2)
def trimN (Q:Sto) (s:Stp):Nat:=(Q.map fun p=>cutV p.2 s).sum
def STrimS (C:CallW) (f:FuncId):Prop:=∀(h:Nat) (Q:Sto) (O:List Nat) (s:Stp) S H (K:AV→St→Prop),StA H O h Q→Q.length≤1000→(∀H',StA H' O h (trimQ Q s)→Left H H' O O→K (.s (.int .i64 (trimN Q s:Nat))) ⟨S,H'⟩)→C (.fn f) [.ptr (.heap h) 0,.agg (stc s)] ⟨S,H⟩ K
theorem fm_congr {α β:Type} {f g:α→Option β}:∀{l:List α},(∀x∈l,f x=g x)→l.filterMap f=l.filterMap g
  | [],_=>rfl
  | x :: l,h=>by rw [List.filterMap_cons,List.filterMap_cons,h x List.mem_cons_self,fm_congr fun y hy=>h y (List.mem_cons_of_mem _ hy)]
theorem visC_k {s:Stp} {V:List Key} {c d:CH} (h:visC s V c=some d):d.k=c.k:=by
  unfold visC trimC at h
  split at h
  · split at h
    · cases h
    · injection h with h; subst h; rfl
  · injection h with h; subst h; rfl
theorem vis_put {s:Stp} {V:List Key} {cl:List CH} {c:CH} (hn:(cl.map CH.k).Nodup) (hc:c∈cl) (hV:c.k∉V) (ht:trimV s c.vs≠[]):(cl.filterMap (visC s V)).map (fun z=>if z.k=c.k then { c with vs:=trimV s c.vs } else z)=cl.filterMap (visC s (V ++ [c.k])):=by
  rw [List.map_filterMap]
  refine fm_congr fun d hd => ?_
  by_cases e:d.k=c.k
  · have:=ch_one hn hd hc e
    subst this
    simp [visC,hV,trimC,ht]
  · unfold visC
    by_cases hd:d.k∈V
    · rw [if_pos hd,if_pos (List.mem_append_left _ hd)]
      unfold trimC
      split
      · rfl
      · simp [e]
    · rw [if_neg hd,if_neg (by simp [hd,e])]
      simp [e]
theorem vis_del {s:Stp} {V:List Key} {cl:List CH} {c:CH} (hn:(cl.map CH.k).Nodup) (hc:c∈cl) (hV:c.k∉V) (ht:trimV s c.vs=[]):(cl.filterMap (visC s V)).filter (fun z=>decide (z.k≠c.k))=cl.filterMap (visC s (V ++ [c.k])):=by
  rw [List.filter_filterMap]
  refine fm_congr fun d hd => ?_
  by_cases e:d.k=c.k
  · have:=ch_one hn hd hc e
    subst this
    simp [visC,hV,trimC,ht]
  · unfold visC
    by_cases hd:d.k∈V
    · rw [if_pos hd,if_pos (List.mem_append_left _ hd)]
      unfold trimC
      split
      · rfl
      · simp [e,Option.filter]
    · rw [if_neg hd,if_neg (by simp [hd,e])]
      simp [e,Option.filter]
theorem vis_all {s:Stp} {V:List Key} {cl:List CH} (h:∀c∈cl,c.k∈V):(cl.filterMap (visC s V)).map CH.p=trimQ (cl.map CH.p) s:=by
  unfold trimQ
  rw [List.map_filterMap,List.filterMap_map]
  refine fm_congr fun d hd => ?_
  unfold visC trimC
  rw [if_pos (h d hd)]
  show Option.map CH.p _=if trimV s d.vs=[] then none else some (d.k,trimV s d.vs)
  split <;> rfl
theorem put_map {l:List CH} {x:CH} (h:∃y∈l,y.k=x.k):putM CH.k l x=l.map fun z=>if z.k=x.k then x else z:=by
  unfold putM
  obtain ⟨y,hy,e⟩:=h
  cases hg:getB CH.k l x.k with
  | none=>exact absurd e (getB_none hg y hy)
  | some z=>rfl
theorem vis_mem {s:Stp} {V:List Key} {cl:List CH} {c:CH} (h:c∈cl.filterMap (visC s V)) (hV:c.k∉V):c∈cl:=by
  obtain ⟨d,hd,e⟩:=List.mem_filterMap.1 h
  have hk:=visC_k e
  unfold visC at e
  rw [if_neg (by rw [←hk]; exact hV)] at e
  injection e with e
  rw [←e]; exact hd
theorem cut_le (vs:List Ver) (s:Stp):cutV vs s≤vs.length:=by
  have:=unt_le vs s
  unfold cutV
  split
  · split <;> omega
  · exact this
theorem sum_vis {cl:List CH} {V:List Key} {s:Stp} (hn:V.Nodup) (hk:(cl.map CH.k).Nodup) (h1:∀k∈V,k∈cl.map CH.k) (h2:∀c∈cl,c.k∈V):(V.map fun k=>cutV (ofQ (cl.map CH.p) k) s).sum=trimN (cl.map CH.p) s:=by
  have hp:V.Perm (cl.map CH.k):=(List.perm_ext_iff_of_nodup hn hk).2 fun k=>⟨h1 k,fun h=>by
    obtain ⟨c,hc,rfl⟩:=List.mem_map.1 h
    exact h2 c hc⟩
  have:=(hp.map fun k=>cutV (ofQ (cl.map CH.p) k) s).sum_nat
  rw [this]
  unfold trimN
  rw [List.map_map,List.map_map]
  congr 1
  refine List.map_congr_left fun c hc => ?_
  show cutV (ofQ (cl.map CH.p) c.k) s=cutV c.vs s
  have hg:getB CH.k cl c.k=some c:=by
    cases hg:getB CH.k cl c.k with
    | none=>exact absurd rfl (getB_none hg c hc)
    | some d =>
      have:=getB_some_iff hg
      rw [ch_one hk this.1 hc this.2]
  rw [ofQ_some hg]
theorem sum_le50 {cl:List CH} {V:List Key} {s:Stp} (h:∀k∈V,(ofQ (cl.map CH.p) k).length≤50):(V.map fun k=>cutV (ofQ (cl.map CH.p) k) s).sum≤50 * V.length:=by
  induction V with
  | nil=>simp
  | cons k V ih =>
    have h1:=h k List.mem_cons_self
    have h2:=cut_le (ofQ (cl.map CH.p) k) s
    have:=ih fun x hx=>h x (List.mem_cons_of_mem _ hx)
    simp only [List.map_cons,List.sum_cons,List.length_cons]
    omega
theorem tk2x {α:Type} {S:List α} {a b:α}:(S ++ [a,b]).take (S.length + 1)=S ++ [a]:=by
  rw [show S ++ [a,b]=(S ++ [a]) ++ [b] by simp,List.take_append_of_le_length (by simp),List.take_of_length_le (by simp)]
theorem tk1x {α:Type} {S:List α} {a:α}:(S ++ [a]).take (S.length + 1)=S ++ [a]:=List.take_of_length_le (by simp)
structure TrI (H0:List HObj) (O:List Nat) (h hm N cc:Nat) (cl:List CH) (s:Stp) (V:List Key) (H:List HObj):Prop where
  left:KeepF H0 H O
  vn:V.Nodup
  vk:∀k∈V,k∈cl.map CH.k
  st:StG H O h hm (cl.filterMap (visC s V))
  it:∃es seen,H[hm]? = some (.map es cc)∧MapG kA CH.k chP es cc (cl.filterMap (visC s V))∧H[N]? = some (.iter ⟨some hm,cc,seen,cc⟩)∧∀e∈es,∀c∈cl.filterMap (visC s V),e.key=kA c.k→(e.born∈seen↔c.k∈V)
theorem it_step {cl' new:List CH} {es' es2:List Entry} {seen:List Nat} {V:List Key} {e:Entry} {x:CH} {cc:Nat} (g':MapG kA CH.k chP es' cc cl') (hn:(cl'.map CH.k).Nodup) (he:e∈es') (hk:e.key=kA x.k) (hsv:∀e∈es',∀c∈cl',e.key=kA c.k→(e.born∈seen↔c.k∈V)) (hsub:∀f∈es2,f∈es') (hold:∀c2∈new,c2.k≠x.k→c2∈cl'):∀f∈es2,∀c2∈new,f.key=kA c2.k→(f.born∈seen ++ [e.born]↔c2.k∈V ++ [x.k]):=by
  intro f hf c2 hc2 hfk
  have hf':=hsub f hf
  by_cases q:c2.k=x.k
  · have:f=e:=ent_one g'.rel hn hf' he (by rw [hfk,hk,q])
    subst this
    simp [q]
  · have hne:f.born≠e.born:=fun eb=>by
      have q1:=born_find g'.nd hf'
      have q2:=born_find g'.nd he
      rw [eb,q2] at q1
      have:=Option.some.inj q1
      subst this
      exact q (kA_in2 (hfk.symm.trans hk))
    rw [List.mem_append,List.mem_append,List.mem_singleton,List.mem_singleton]
    have:=hsv f hf' c2 (hold c2 hc2 q) hfk
    simp [hne,q,this]
theorem nodup_lt {α:Type} [DecidableEq α] {V W:List α} (hn:V.Nodup) (h:∀k∈V,k∈W):V.length≤W.length:=hn.length_le_of_subset fun z hz=>h z hz
set_option maxHeartbeats 16000000 in
theorem store_Trim_spec {C:CallW} (hC:LeC C C) (P:Program) {c:Nat→FuncId} (h0:PTrimS C (c 0)) (h1:PLenS C (c 1)):∀(h:Nat) (Q:Sto) (O:List Nat) (s:Stp) S H (K:AV→St→Prop),StA H O h Q→Q.length≤1000→(∀H',StA H' O h (trimQ Q s)→Left H H' O O→K (.s (.int .i64 (trimN Q s:Nat))) ⟨S,H'⟩)→runL C P (Czc c) [.ptr (.heap h) 0,.agg (stc s)] ⟨S,H⟩ K:=by
  rintro h _ O s S H K ⟨hm,cl,t,rfl⟩ hq hK
  have a0:=t.at0
  have tA:StA H O h (cl.map CH.p):=⟨hm,cl,t,rfl⟩
  obtain ⟨es,cc,am,g⟩:=t.map
  rw [List.length_map] at hq
  simp only [stc,Czc,A_,simprocAttr,ne_eq,(Uzj _).1,CHK_,Nat.reduceBEq,a0]
  rw [opS_rng rfl am]
  simp only [stc,Czc,A_,simprocAttr,ne_eq,(Uzj _).1,CHK_,Nat.reduceBEq]
  have hv0:cl.filterMap (visC s [])=cl:=by
    have:∀d∈cl,visC s [] d=some d:=fun d _=>by simp [visC]
    rw [fm_congr this]; simp
  have hN:∀i∈O,i≠H.length:=fun i hi q=>by have:=t.low i hi; omega
  refine loop_rule hC (α:=List Key×List HObj) (fun a=>cl.length - a.1.length) (fun a=>[.ptr (.heap h) 0,uu,uu,.ptr (.stk S.length) 0,.undef,.s (.int .i64 ((a.1.map fun k=>cutV (ofQ (cl.map CH.p) k) s).sum:Nat)),uu,uu,uu,uu,uu,uu,.ptr (.heap H.length) 0,uu,uu,uu,uu,uu,uu,uu,uu,uu,uu,uu,uu,uu,uu,uu,uu,uu,uu,uu]) (fun _=>S ++ [stc s]) (fun a=>a.2) (fun a=>TrI H O h hm H.length cc cl s a.1 a.2) ([],H ++ [.iter ⟨some hm,cc,[],cc⟩]) ⟨.app,.nil,(by simp),by rw [hv0]; exact t.app,es,[],happ am,by rw [hv0]; exact g,by simp,fun e he c hc hk=>by simp⟩ rfl tk1x rfl (fun a _=>by simp [AV.under,AV.under.go]) ?_
  rintro ⟨V,Hx⟩ I ih
  dsimp only at I
  obtain ⟨es',seen,hmp,g',hit,hsv⟩:=I.it
  simp only [stc,Czc,A_,simprocAttr,ne_eq,(Uzj _).1,CHK_,Nat.reduceBEq]
  rw [opS_nxt rfl hit rfl hmp]
  refine ⟨?_,fun hall => ?_,fun e he hns => ?_⟩
  · cases es' with
    | nil=>exact .inr (.inl rfl)
    | cons e es'=>exact .inr (.inr ⟨e,List.mem_cons_self,g'.lt e List.mem_cons_self⟩)
  · have hV:∀c∈cl,c.k∈V:=fun c hc=>by
      by_cases hv:c.k∈V
      · exact hv
      · have hc':c∈cl.filterMap (visC s V):=List.mem_filterMap.2 ⟨c,hc,by simp [visC,hv]⟩
        obtain ⟨e,he,hk,_⟩:=rel_mem' g'.rel hc'
        rcases hall e he with q | q
        · exact (hsv e he c hc' hk).1 q
        · have:=g'.lt e he
          exact absurd q (by dsimp only; omega)
    have hK:=hK Hx ⟨hm,_,I.st,vis_all hV⟩ ⟨I.left,fun i hi => .inl hi⟩
    rw [←sum_vis I.vn t.nk I.vk hV] at hK
    simp only [stc,Czc,A_,simprocAttr,ne_eq,(Uzj _).1,CHK_,Nat.reduceBEq]
    exact hK
  · obtain ⟨x,hx,hk,hval⟩:=rel_mem g'.rel he
    have hxV:x.k∉V:=fun q=>hns ((hsv e he x hx hk).2 q)
    have hxc:x∈cl:=vis_mem hx hxV
    have hofQ:ofQ (cl.map CH.p) x.k=x.vs:=by
      have hg:getB CH.k cl x.k=some x:=by
        cases hg:getB CH.k cl x.k with
        | none=>exact absurd rfl (getB_none hg x hxc)
        | some d =>
          have:=getB_some_iff hg
          rw [ch_one t.nk this.1 hxc this.2]
      exact ofQ_some hg
    have ok:=t.ok x hxc
    dsimp only
    have hNO:H.length∉O:=fun q=>hN _ q rfl
    have I2:=I.st.keep (k:=[H.length]) (.set (o := .iter ⟨some hm,cc,seen ++ [e.born],cc⟩) (List.mem_singleton.2 rfl)) (fun i hi q=>hN i hi (List.mem_singleton.1 q))
    have hmN:hm≠H.length:=hN _ t.own.2.1
    have hmp2:(Hx.set H.length (.iter ⟨some hm,cc,seen ++ [e.born],cc⟩))[hm]? = some (.map es' cc):=hset (Ne.symm hmN) hmp
    have hit2:(Hx.set H.length (.iter ⟨some hm,cc,seen ++ [e.born],cc⟩))[H.length]? = some (.iter ⟨some hm,cc,seen ++ [e.born],cc⟩):=hself hit
    have kp:KeepF H (Hx.set H.length (.iter ⟨some hm,cc,seen ++ [e.born],cc⟩)) O:=⟨by rw [List.length_set]; exact I.left.1,fun i hi hio=>by rw [List.getElem?_set_ne (by omega)]; exact I.left.2 i hi hio⟩
    generalize Hx.set H.length (.iter ⟨some hm,cc,seen ++ [e.born],cc⟩)=Hy at I2 hmp2 hit2 kp ⊢
    have hxN:x.b≠H.length:=hN _ (t.own.2.2 x hxc)
    have hln:V.length < cl.length:=by
      have:=nodup_lt (V:=V ++ [x.k]) (W:=cl.map CH.k) (List.nodup_append.2 ⟨I.vn,by simp,fun a ha b hb e=>hxV (by rw [←List.mem_singleton.1 hb,←e]; exact ha)⟩) fun k hk=>by
        rcases List.mem_append.1 hk with hk | hk
        · exact I.vk k hk
        · rw [List.mem_singleton.1 hk]; exact List.mem_map_of_mem hxc
      simp at this; omega
    have hs50:=sum_le50 (cl:=cl) (V:=V) (s:=s) fun k _=>(ofQ_ok tA k).2.1
    have hc50:=cut_le x.vs s
    have hok50:=ok.2.2.1
    simp only [stc,Czc,A_,simprocAttr,ne_eq,(Uzj _).1,CHK_,Nat.reduceBEq]
    rw [opS_ent rfl hit2 rfl hmp2 (b:=e.born) (by simp) rfl (born_find g'.nd he),hk,hval]
    have h0':=h0 x.b x.vs s
    simp only [stc] at h0'
    simp only [kA,chP,stc,Czc,A_,simprocAttr,ne_eq,(Uzj _).1,CHK_,Nat.reduceBEq]
    refine h0' _ _ _ (I2.ch x hx) ok.1 ok.2.1 ok.2.2.1 fun X hX1 hX2 => ?_
    have hdl:(x.vs.drop (cutV x.vs s)).length=x.vs.length - cutV x.vs s:=List.length_drop
    have hwr:IntKind.i64.wrap (((V.map fun k=>cutV (ofQ (cl.map CH.p) k) s).sum:Nat) + (cutV x.vs s:Nat):Int)=((((V ++ [x.k]).map fun k=>cutV (ofQ (cl.map CH.p) k) s).sum:Nat):Int):=by
      rw [wrap_i64 (by omega) (by omega),List.map_append,List.sum_append,List.map_singleton,List.sum_singleton,hofQ]
      omega
    have hcx:(Hy.set x.b (.cells [X]))[x.b]? = some (.cells [X]):=hself (I2.ch x hx)
    have hvn:(V ++ [x.k]).Nodup:=List.nodup_append.2 ⟨I.vn,by simp,fun a ha b hb e=>hxV (by rw [←List.mem_singleton.1 hb,←e]; exact ha)⟩
    have hvk:∀k∈V ++ [x.k],k∈cl.map CH.k:=fun k hk=>by
      rcases List.mem_append.1 hk with hk | hk
      · exact I.vk k hk
      · rw [List.mem_singleton.1 hk]; exact List.mem_map_of_mem hxc
    simp only [stc,Czc,A_,simprocAttr,ne_eq,(Uzj _).1,CHK_,Nat.reduceBEq,hwr]
    refine h1 x.b X _ _ _ _ hcx hX2 ?_
    by_cases htr:trimV s x.vs=[]
    · obtain ⟨es2,d1,d2,hsub,st2⟩:=I2.delc hx (o := .cells [X]) hmp2 g'
      have hz:x.vs.drop (cutV x.vs s)=[]:=htr
      have a1:(Hy.set x.b (.cells [X]))[h]? = some (.cells [.map hm]):=by
        have:=st2.at0
        have hmh:hm≠h:=fun q=>by
          have:=I2.at0
          rw [←q,hmp2] at this; cases this
        rwa [List.getElem?_set_ne hmh] at this
      rw [hz]
      simp only [List.length_nil,stc,Czc,A_,simprocAttr,ne_eq,(Uzj _).1,CHK_,Nat.reduceBEq,a1,d1]
      rw [vis_del t.nk hxc hxV htr] at d2 st2
      refine ih (V ++ [x.k],_) _ _ _ (by show cl.length - (V ++ [x.k]).length < cl.length - V.length; simp; omega) ⟨(kp.trans (.set (t.own.2.2 x hxc))).trans (.set t.own.2.1),hvn,hvk,st2,es2,seen ++ [e.born],hself (hset (fun q=>by have:=I2.ch x hx; rw [q,hmp2] at this; cases this) hmp2),d2,hset hmN (hset hxN hit2),it_step g' I.st.nk he hk hsv hsub fun c2 hc2 hne => ?_⟩ rfl tk2x rfl
      rw [←vis_del t.nk hxc hxV htr] at hc2
      exact (List.mem_filter.1 hc2).1
    · have hX:X=chK (trimV s x.vs):=hX1 htr
      have hln:¬(((x.vs.drop (cutV x.vs s)).length:Nat):Int)=0:=fun q=>htr (List.length_eq_zero_iff.1 (by unfold trimV; omega))
      have hok:ChOK (trimV s x.vs):=⟨htr,drop_sor ok.2.1 _,by unfold trimV; omega,fun v hv=>ok.2.2.2 v (List.mem_of_mem_drop hv)⟩
      have st2:=I2.setc hx hok
      rw [put_map (x:={ x with vs:=trimV s x.vs }) ⟨x,hx,rfl⟩,vis_put t.nk hxc hxV htr,←hX] at st2
      obtain ⟨es2,c2,m2,g2⟩:=st2.map
      have hmp3:(Hy.set x.b (.cells [X]))[hm]? = some (.map es' cc):=hset (fun q=>by have:=I2.ch x hx; rw [q,hmp2] at this; cases this) hmp2
      rw [hmp3] at m2
      injection m2 with m2
      injection m2 with m2 m3
      subst m2 m3
      simp only [stc,Czc,A_,simprocAttr,ne_eq,(Uzj _).1,CHK_,Nat.reduceBEq,hln]
      refine ih (V ++ [x.k],_) _ _ _ (by show cl.length - (V ++ [x.k]).length < cl.length - V.length; simp; omega) ⟨kp.trans (.set (t.own.2.2 x hxc)),hvn,hvk,st2,es',seen ++ [e.born],hmp3,g2,hset hxN hit2,it_step g' I.st.nk he hk hsv (fun _ h=>h) fun c2 hc2 hne => ?_⟩ rfl tk2x rfl
      rw [←vis_put t.nk hxc hxV htr] at hc2
      obtain ⟨z,hz,ez⟩:=List.mem_map.1 hc2
      by_cases hzk:z.k=x.k
      · rw [if_pos hzk] at ez
        exact absurd (by rw [←ez]) hne
      · rw [if_neg hzk] at ez
        rw [←ez]; exact hz
end Go.AM
namespace Go.AM
open Go
set_option maxRecDepth 20000
structure CpI (H0:List HObj) (h1 N hm cc:Nat) (es:List Entry) (px:Entry→CH) (vs:List Entry) (O1:List Nat) (H:List HObj):Prop where
  keep:KeepF H0 H []
  it:H[N]? = some (.iter ⟨some hm,cc,vs.map (·.born),cc⟩)
  st:StA H O1 h1 (vs.map fun e=>(px e).p)
  new:∀i∈O1,H0.length≤i∧i≠N
  vn:(vs.map (·.born)).Nodup
  vs:∀e∈vs,e∈es
theorem StG.px {H:List HObj} {O:List Nat} {h hm:Nat} {l:List CH} (t:StG H O h hm l):∃es cc,∃px:Entry→CH,H[hm]? = some (.map es cc)∧(es.map (·.born)).Nodup∧(∀e∈es,e.born < cc)∧(∀e∈es,e.key=kA (px e).k∧e.val=chP (px e)∧px e∈l)∧es.map px=l:=by
  obtain ⟨es,cc,a,g⟩:=t.map
  have hx:∀e:Entry,∃c:CH,e∈es→c∈l∧e.key=kA c.k∧e.val=chP c:=fun e=>by
    by_cases he:e∈es
    · obtain ⟨c,hc,q⟩:=rel_mem g.rel he
      exact ⟨c,fun _=>⟨hc,q⟩⟩
    · exact ⟨⟨key0,0,[]⟩,fun q=>absurd q he⟩
  refine ⟨es,cc,fun e=>Classical.choose (hx e),a,g.nd,g.lt,fun e he => ?_,?_⟩
  · have:=Classical.choose_spec (hx e) he
    exact ⟨this.2.1,this.2.2,this.1⟩
  · have hrel:=g.rel
    unfold RelM at hrel
    have hlen:es.length=l.length:=by have:=congrArg List.length hrel; simpa using this
    refine List.ext_getElem (by simpa using hlen) fun j h1 h2 => ?_
    have h1':j < es.length:=by simpa using h1
    have hk:es[j].key=kA l[j].k:=by
      have:=congrArg (fun z=>z[j]?) hrel
      simp [h1',h2] at this
      exact this.1
    rw [List.getElem_map]
    have sp:=Classical.choose_spec (hx es[j]) (List.getElem_mem h1')
    exact ch_one t.nk sp.1 (List.getElem_mem h2) (kA_in2 (sp.2.1.symm.trans hk))
end Go.AM
namespace Go.AM
open Go
set_option maxRecDepth 20000
end Go.AM
namespace Go.AM
open Go
set_option maxRecDepth 20000
end Go.AM
namespace Go.AM
open Go
set_option maxRecDepth 20000
end Go.AM
namespace Go.AM
open Go
set_option maxRecDepth 20000
end Go.AM
namespace Go.AM
open Go
set_option maxRecDepth 20000
end Go.AM
namespace Go.AM
open Go
set_option maxRecDepth 20000
end Go.AM
namespace Go.AM
open Go
set_option maxRecDepth 20000
end Go.AM
namespace Go.AM
open Go
open AV renaming undef → uu
set_option maxRecDepth 20000
def KeysEqS (C:CallW) (f:FuncId):Prop:=∀(a b:List Key) S H (K:AV→St→Prop),a.length≤1000000→b.length≤1000000→K (.bool (decide (a=b))) ⟨S,H⟩→C (.fn f) [lstK a,lstK b] ⟨S,H⟩ K
set_option maxHeartbeats 4000000 in
theorem law12_keys_spec {C:CallW} (hC:LeC C C) (P:Program):∀(a b:List Key) S H (K:AV→St→Prop),a.length≤1000000→b.length≤1000000→K (.bool (decide (a=b))) ⟨S,H⟩→runL C P Cz11 [lstK a,lstK b] ⟨S,H⟩ K:=by
  intro A B S H K hA hB hK
  by_cases hl:A.length=B.length
  case neg =>
    have hn:¬((A.length:Int)=(B.length:Int)):=by omega
    rw [decide_eq_false (fun e=>hl (by rw [e]))] at hK
    simp only [lstK,Cz11,A_,simprocAttr,ne_eq,Uzq.1,hn]
    exact hK
  have hn:((A.length:Int)=(B.length:Int)):=by omega
  have hn':=eq_true hn
  simp only [lstK,Cz11,A_,simprocAttr,ne_eq,Uzq.1,hn']
  refine loop_rule hC (α:=Nat) (fun i=>A.length - i) (fun i=>[.list .sh 16 (A.map kA),.list .sh 16 (B.map kA),uu,uu,uu,.s (.int .i64 (i:Nat)),uu,uu,uu,uu,uu,uu,uu,uu,uu,uu,uu,uu,uu,uu,uu,uu,uu,uu,uu,uu]) (fun _=>S) (fun _=>H) (fun i=>i≤A.length∧(A=B↔A.drop i=B.drop i)) 0 ⟨by simp,by simp⟩ rfl (by simp) rfl (fun a _=>by simp [AV.under,AV.under.go]) ?_
  rintro i ⟨hi,hinv⟩ ih
  by_cases h16:i < A.length
  · have hlt:((i:Int) < (A.length:Int)):=by omega
    have h17:i < B.length:=by omega
    have hw:IntKind.i64.wrap ((i:Int) + 1)=(i:Int) + 1:=wrap_i64 (by omega) (by omega)
    have xa:∀k:IntKind,indexAddrL (.sl 16) (.list .sh 16 (A.map kA)) (.s (.int k (i:Int)))=some (.rop (bs A[i].b)):=fun k=>ixl_map h16 (by omega)
    have xb:∀k:IntKind,indexAddrL (.sl 16) (.list .sh 16 (B.map kA)) (.s (.int k (i:Int)))=some (.rop (bs B[i].b)):=fun k=>ixl_map h17 (by omega)
    rw [List.drop_eq_getElem_cons h16,List.drop_eq_getElem_cons h17,List.cons.injEq] at hinv
    by_cases he:A[i]=B[i]
    · have he':=eq_true he
      simp only [A_,simprocAttr,ne_eq,Uzq.1,hlt,xa,xb,he',hw]
      exact ih (i + 1) _ _ _ (by omega) ⟨by omega,by rw [hinv]; simp [he]⟩ rfl (by simp) rfl
    · have he':=eq_false he
      rw [decide_eq_false (fun e=>he (hinv.1 e).1)] at hK
      simp only [A_,simprocAttr,ne_eq,Uzq.1,hlt,xa,xb,he']
      exact hK
  · have hlt:¬((i:Int) < (A.length:Int)):=by omega
    rw [List.drop_of_length_le (by omega),List.drop_of_length_le (by omega)] at hinv
    rw [decide_eq_true (hinv.2 rfl)] at hK
    simp only [A_,simprocAttr,ne_eq,Uzq.1,hlt]
    exact hK
def kB:Key:=(keyOf [98]).1
def kC:Key:=(keyOf [99]).1
def kZ:Key:=(keyOf [122]).1
def vK1 (t:Int) (v:List UInt8) (g:Bool):Ver:=⟨⟨t,0⟩,v,g⟩
def kq1:Sto:=[(kB,[vK1 1 [49] false]),(kAa,[vK1 1 [50] false]),(kC,[vK1 1 [51] false])]
def kq2:Sto:=[(kB,[vK1 1 [49] false,vK1 3 [] true]),(kAa,[vK1 1 [50] false]),(kC,[vK1 1 [51] false])]
def kq3:Sto:=[(kAa,[vK1 1 [50] false]),(kC,[vK1 1 [51] false])]
theorem kn1:appQ [] ⟨1,0⟩ []=(1,[]):=by kernel_rfl
theorem kn2:appQ [] ⟨1,0⟩ [⟨kAa,[],false⟩,⟨kAa,[],false⟩]=(1,[]):=by kernel_rfl
theorem kn3:appQ [] ⟨-1,0⟩ [⟨kAa,[],false⟩]=(1,[]):=by kernel_rfl
theorem kn4:appQ [] ⟨1,0⟩ [⟨kB,[49],false⟩,⟨kAa,[50],false⟩,⟨kC,[51],false⟩]=(0,kq1):=by kernel_rfl
theorem kn5:appQ kq1 ⟨1,0⟩ [⟨kZ,[],false⟩,⟨kAa,[],false⟩]=(5,kq1):=by kernel_rfl
theorem kn6:appQ kq1 ⟨3,0⟩ [⟨kB,[],true⟩]=(0,kq2):=by kernel_rfl
theorem kk2:keysQ kq2=[kAa,kB,kC]:=(keysQ_eq (by show List.Perm [kAa,kB,kC] [kB,kAa,kC]; exact .swap _ _ _) (by decide +kernel)).symm
theorem kk3:keysQ kq3=[kAa,kC]:=(keysQ_eq (.refl _) (by decide +kernel)).symm
theorem kn7:scanQ kq2 kAa key0 ⟨2,0⟩ 2=[⟨kAa,[50]⟩,⟨kB,[49]⟩]:=by unfold scanQ; rw [kk2]; kernel_rfl
theorem kn8:scanQ kq2 kAa kC ⟨3,0⟩ 9=[⟨kAa,[50]⟩]:=by unfold scanQ; rw [kk2]; kernel_rfl
theorem kn9:newS kq2 kB=(⟨3,0⟩,true):=by kernel_rfl
theorem kn10:trimN kq2 ⟨3,0⟩=2:=by kernel_rfl
theorem kn11:trimQ kq2 ⟨3,0⟩=kq3:=by kernel_rfl
theorem kn12:newS kq3 kB=(⟨0,0⟩,false):=by kernel_rfl
theorem kn13:scanQ kq3 kAa key0 ⟨9,0⟩ (-1)=[]:=by unfold scanQ; rw [kk3]; kernel_rfl
theorem ws_wk {a b:AV} {ws:List Wr}:WkF [a,b,.list .full 18 (ws.map wA)] [a,b,lstW ws] := .same (.same (.wk (show WkL [.list .full 18 (ws.map wA)] [lstW ws] from .full .nil) .nil))
theorem ks_wk {a:AV} {ks:List Key}:WkF [a,.list .full 16 (ks.map kA)] [a,lstK ks] := .same (.wk (show WkL [.list .full 16 (ks.map kA)] [lstK ks] from .full .nil) .nil)
theorem ws_wk0 {a b:AV}:WkF [a,b,.s .nilS] [a,b,lstW []] := .same (.same (.wk (show WkL [.s .nilS] [lstW []] from .nilS (by omega) .nil) .nil))
set_option maxHeartbeats 16000000 in
theorem StoreKnown_spec {C:CallW} (hW:WkC C) (P:Program) {c:Nat→FuncId} (h0:AwSS C (c 0)) (h1:StNewS C (c 1)) (h2:AtS C (c 2)) (h3:ApplyS C (c 3)) (h4:kS C (c 4)) (h5:ScanS C (c 5)) (h6:StNewestS C (c 6)) (h7:STrimS C (c 7)) (h8:StKeysS C (c 8)) (h9:KeysEqS C (c 9)):∀S H (K:AV→St→Prop),(∀H',K (.bool true) ⟨S,H'⟩)→runL C P (Cz0 c) [] ⟨S,H⟩ K:=by
  intro S H K hK
  have ka:(keyOf [97]).1=kAa:=rfl
  have kb:(keyOf [98]).1=kB:=rfl
  have kc:(keyOf [99]).1=kC:=rfl
  have kz:(keyOf [122]).1=kZ:=rfl
  simp only [Cz0,A_,simprocAttr,ne_eq,(Uz1 _).1]
  refine h0 _ _ _ fun H0 => ?_
  simp only [Cz0,A_,simprocAttr,ne_eq,(Uz1 _).1]
  refine h1 _ _ _ fun H1 h O1 t1 _ => ?_
  simp only [Cz0,A_,simprocAttr,ne_eq,(Uz1 _).1]
  refine h2 1 _ _ _ ?_
  simp only [Cz0,A_,simprocAttr,ne_eq,(Uz1 _).1]
  refine hW _ _ _ _ _ ws_wk0 (h3 h [] O1 ⟨1,0⟩ [] _ _ _ t1 (by simp) (by simp) fun H2 O2 t2 _ => ?_)
  rw [kn1] at t2 ⊢
  dsimp only at t2
  simp only [Cz0,A_,simprocAttr,ne_eq,(Uz1 _).1]
  refine h2 1 _ _ _ ?_
  simp only [Cz0,A_,simprocAttr,ne_eq,(Uz1 _).1]
  refine h4 _ _ _ _ ?_
  rw [ka]
  simp only [Cz0,A_,simprocAttr,ne_eq,(Uz1 _).1]
  refine h4 _ _ _ _ ?_
  rw [ka]
  simp only [Cz0,A_,simprocAttr,ne_eq,(Uz1 _).1]
  refine hW _ _ _ _ _ (ws_wk (ws:=[⟨kAa,[],false⟩,⟨kAa,[],false⟩])) (h3 h [] O2 ⟨1,0⟩ _ _ _ _ t2 (by simp) (by simp) fun H3 O3 t3 _ => ?_)
  rw [kn2] at t3 ⊢
  dsimp only at t3
  simp only [Cz0,A_,simprocAttr,ne_eq,(Uz1 _).1]
  refine h2 (-1) _ _ _ ?_
  simp only [Cz0,A_,simprocAttr,ne_eq,(Uz1 _).1]
  refine h4 _ _ _ _ ?_
  rw [ka]
  simp only [Cz0,A_,simprocAttr,ne_eq,(Uz1 _).1]
  refine hW _ _ _ _ _ (ws_wk (ws:=[⟨kAa,[],false⟩])) (h3 h [] O3 ⟨-1,0⟩ _ _ _ _ t3 (by simp) (by simp) fun H4 O4 t4 _ => ?_)
  rw [kn3] at t4 ⊢
  dsimp only at t4
  simp only [Cz0,A_,simprocAttr,ne_eq,(Uz1 _).1]
  refine h2 1 _ _ _ ?_
  simp only [Cz0,A_,simprocAttr,ne_eq,(Uz1 _).1]
  refine h4 _ _ _ _ ?_
  rw [kb]
  simp only [Cz0,A_,simprocAttr,ne_eq,(Uz1 _).1]
  refine h4 _ _ _ _ ?_
  rw [ka]
  simp only [Cz0,A_,simprocAttr,ne_eq,(Uz1 _).1]
  refine h4 _ _ _ _ ?_
  rw [kc]
  simp only [Cz0,A_,simprocAttr,ne_eq,(Uz1 _).1]
  refine hW _ _ _ _ _ (ws_wk (ws:=[⟨kB,[49],false⟩,⟨kAa,[50],false⟩,⟨kC,[51],false⟩])) (h3 h [] O4 ⟨1,0⟩ _ _ _ _ t4 (by simp) (by simp) fun H5 O5 t5 _ => ?_)
  rw [kn4] at t5 ⊢
  dsimp only at t5
  simp only [Cz0,A_,simprocAttr,ne_eq,(Uz1 _).1]
  refine h2 1 _ _ _ ?_
  simp only [Cz0,A_,simprocAttr,ne_eq,(Uz1 _).1]
  refine h4 _ _ _ _ ?_
  rw [kz]
  simp only [Cz0,A_,simprocAttr,ne_eq,(Uz1 _).1]
  refine h4 _ _ _ _ ?_
  rw [ka]
  simp only [Cz0,A_,simprocAttr,ne_eq,(Uz1 _).1]
  refine hW _ _ _ _ _ (ws_wk (ws:=[⟨kZ,[],false⟩,⟨kAa,[],false⟩])) (h3 h kq1 O5 ⟨1,0⟩ _ _ _ _ t5 (by simp [kq1]) (by simp) fun H6 O6 t6 _ => ?_)
  rw [kn5] at t6 ⊢
  dsimp only at t6
  simp only [Cz0,A_,simprocAttr,ne_eq,(Uz1 _).1]
  refine h2 3 _ _ _ ?_
  simp only [Cz0,A_,simprocAttr,ne_eq,(Uz1 _).1]
  refine h4 _ _ _ _ ?_
  rw [kb]
  simp only [Cz0,A_,simprocAttr,ne_eq,(Uz1 _).1]
  refine hW _ _ _ _ _ (ws_wk (ws:=[⟨kB,[],true⟩])) (h3 h kq1 O6 ⟨3,0⟩ _ _ _ _ t6 (by simp [kq1]) (by simp) fun H7 O7 t7 _ => ?_)
  rw [kn6] at t7 ⊢
  dsimp only at t7
  simp only [Cz0,A_,simprocAttr,ne_eq,(Uz1 _).1]
  refine h4 _ _ _ _ ?_
  rw [ka]
  simp only [Cz0,A_,simprocAttr,ne_eq,(Uz1 _).1]
  refine h2 2 _ _ _ ?_
  simp only [Cz0,A_,simprocAttr,ne_eq,(Uz1 _).1]
  refine h5 h kq2 O7 kAa key0 ⟨2,0⟩ 2 _ _ _ t7 (by simp [kq2]) fun G1 => ?_
  rw [kn7]
  simp only [Cz0,A_,simprocAttr,ne_eq,(Uz1 _).1]
  refine h4 _ _ _ _ ?_
  rw [ka]
  simp only [Cz0,A_,simprocAttr,ne_eq,(Uz1 _).1]
  refine h4 _ _ _ _ ?_
  rw [kc]
  simp only [Cz0,A_,simprocAttr,ne_eq,(Uz1 _).1]
  refine h2 3 _ _ _ ?_
  simp only [Cz0,A_,simprocAttr,ne_eq,(Uz1 _).1]
  refine h5 h kq2 O7 kAa kC ⟨3,0⟩ 9 _ _ _ t7.app (by simp [kq2]) fun G2 => ?_
  rw [kn8]
  simp only [Cz0,A_,simprocAttr,ne_eq,(Uz1 _).1]
  refine h4 _ _ _ _ ?_
  rw [kb]
  simp only [Cz0,A_,simprocAttr,ne_eq,(Uz1 _).1]
  refine h6 h kq2 O7 kB _ _ _ t7.app fun G3 => ?_
  rw [kn9]
  simp only [stc,Cz0,A_,simprocAttr,ne_eq,(Uz1 _).1]
  refine h2 3 _ _ _ ?_
  simp only [Cz0,A_,simprocAttr,ne_eq,(Uz1 _).1]
  refine h7 h kq2 O7 ⟨3,0⟩ _ _ _ t7.app (by simp [kq2]) fun H8 t8 _ => ?_
  rw [kn11] at t8
  rw [kn10]
  simp only [Cz0,A_,simprocAttr,ne_eq,(Uz1 _).1]
  refine h4 _ _ _ _ ?_
  rw [kb]
  simp only [Cz0,A_,simprocAttr,ne_eq,(Uz1 _).1]
  refine h6 h kq3 O7 kB _ _ _ t8 fun G4 => ?_
  rw [kn12]
  simp only [stc,Cz0,A_,simprocAttr,ne_eq,(Uz1 _).1]
  have h5':=fun h Q O a b s m=>h5 h Q O a b s m
  simp only [stc] at h5'
  have L0:lstIt [⟨kAa,[50]⟩,⟨kB,[49]⟩] = .list .sh 17 [.agg (itc ⟨kAa,[50]⟩),.agg (itc ⟨kB,[49]⟩)]:=rfl
  have L1:lstIt [⟨kAa,[50]⟩] = .list .sh 17 [.agg (itc ⟨kAa,[50]⟩)]:=rfl
  have x0:∀(k:IntKind) (a b:It),indexAddrL (.sl 17) (.list .sh 17 [.agg (itc a),.agg (itc b)]) (.s (.int k 0))=some (.rop (itc a)):=fun k a b=>rfl
  have x1:∀(k:IntKind) (a b:It),indexAddrL (.sl 17) (.list .sh 17 [.agg (itc a),.agg (itc b)]) (.s (.int k 1))=some (.rop (itc b)):=fun k a b=>rfl
  have x2:∀(k:IntKind) (a:It),indexAddrL (.sl 17) (.list .sh 17 [.agg (itc a)]) (.s (.int k 0))=some (.rop (itc a)):=fun k a=>rfl
  have e2:((2:Nat):Int)=2:=rfl
  simp only [L0,L1,x0,x1,x2,e2,IT_,stc,Cz0,A_,simprocAttr,ne_eq,(Uz1 _).1,CHK_,Nat.reduceBEq]
  refine h4 _ _ _ _ ?_
  rw [ka]
  simp only [L0,L1,x0,x1,x2,e2,IT_,stc,Cz0,A_,simprocAttr,ne_eq,(Uz1 _).1,CHK_,Nat.reduceBEq]
  refine h2 3 _ _ _ ?_
  simp only [L0,L1,x0,x1,x2,e2,IT_,stc,Cz0,A_,simprocAttr,ne_eq,(Uz1 _).1,CHK_,Nat.reduceBEq]
  refine h8 h kq3 O7 _ _ _ t8.app (by simp [kq3]) fun G5 => ?_
  rw [kk3]
  simp only [L0,L1,x0,x1,x2,e2,IT_,stc,Cz0,A_,simprocAttr,ne_eq,(Uz1 _).1,CHK_,Nat.reduceBEq]
  refine h4 _ _ _ _ ?_
  rw [ka]
  simp only [L0,L1,x0,x1,x2,e2,IT_,stc,Cz0,A_,simprocAttr,ne_eq,(Uz1 _).1,CHK_,Nat.reduceBEq]
  refine h4 _ _ _ _ ?_
  rw [kc]
  simp only [L0,L1,x0,x1,x2,e2,IT_,stc,Cz0,A_,simprocAttr,ne_eq,(Uz1 _).1,CHK_,Nat.reduceBEq]
  refine hW _ _ _ _ _ (ks_wk (ks:=[kAa,kC])) (h9 [kAa,kC] [kAa,kC] _ _ _ (by simp) (by simp) ?_)
  rw [decide_eq_true rfl]
  simp only [L0,L1,x0,x1,x2,e2,IT_,stc,Cz0,A_,simprocAttr,ne_eq,(Uz1 _).1,CHK_,Nat.reduceBEq]
  refine h4 _ _ _ _ ?_
  rw [ka]
  simp only [L0,L1,x0,x1,x2,e2,IT_,stc,Cz0,A_,simprocAttr,ne_eq,(Uz1 _).1,CHK_,Nat.reduceBEq]
  refine h2 9 _ _ _ ?_
  simp only [L0,L1,x0,x1,x2,e2,IT_,stc,Cz0,A_,simprocAttr,ne_eq,(Uz1 _).1,CHK_,Nat.reduceBEq]
  refine h5' h kq3 O7 kAa key0 ⟨9,0⟩ (-1) _ _ _ (by rw [←List.append_assoc]; exact t8.app.app) (by simp [kq3]) fun G6 => ?_
  rw [kn13]
  have L2:lstIt [] = .list .sh 17 []:=rfl
  simp only [L2,L0,L1,x0,x1,x2,e2,IT_,stc,Cz0,A_,simprocAttr,ne_eq,(Uz1 _).1,CHK_,Nat.reduceBEq]
  exact hK _
end Go.AM
namespace Go.AM
open Go
set_option maxRecDepth 20000
end Go.AM
namespace Go.AM
open Go
set_option maxRecDepth 20000
end Go.AM
namespace Go.AM
open Go
section
variable {H:Type} {enc:TypeId×Value→H} {P:Program} {w:World} {sp:Nat→Bool} {held:Bool}
end
end Go.AM
namespace Go.AM
open Go
section
variable {H:Type} {enc:TypeId×Value→H} {P:Program} {w:World} {sp:Nat→Bool} {held:Bool}
def shp (P:Program):Nat→TypeId→List AV→Prop
  | 0,_,_=>False
  | d + 1,t,azz=>match P.underlying t with
    | some .bool=>∃b,azz=[.s (.bool b)]
    | some (.int k)=>∃i,azz=[.s (.int k i)]∧(Lit.int k i).wf=true
    | some .string=>∃l,azz=[.s (.str l)]∧l.length≤maxLen
    | some (.slice e)=>∃es:List AV,azz=[.list .sh (P.cellsOf e) es]∧es.length≤maxLen∧∀x∈es,shp P d e x.cells∧(isAgg P e=true→x = .agg x.cells)∧(isAgg P e=false→x.cells=[x])
    | some (.struct fs)=>fs.toList.foldr (fun f (Q:List AV→Prop) azz=>∃a b,azz=a ++ b∧shp P d f.type a∧Q b) (fun azz=>azz=[]) azz
    | some (.array m e)=>∃ps:List (List AV),ps.length=m∧azz=ps.flatten∧∀p∈ps,shp P d e p
    | _=>False
structure Tells (w:World) (azz:List AV) (cs:List Value):Prop where
  vl:VL G.none w azz cs
  cell:∀c∈azz,c.isCell=true
  low:AV.under.go 0 azz=true
theorem Tells.nil:Tells w [] []:=⟨.nil,(fun _ h=>by cases h),rfl⟩
theorem Tells.app {a b:List AV} {c d:List Value} (h:Tells w a c) (h':Tells w b d):Tells w (a ++ b) (c ++ d) :=
  ⟨h.vl.app h'.vl,fun x hx=>(List.mem_append.1 hx).elim (h.cell x) (h'.cell x),by rw [under_app',h.low,h'.low]; rfl⟩
theorem Tells.flat:∀{ps:List (List AV)} {qs:List (List Value)},ps.length=qs.length→(∀(i:Nat) (p:List AV) (q:List Value),ps[i]? = some p→qs[i]? = some q→Tells w p q)→Tells w ps.flatten qs.flatten
  | [],[],_,_ => .nil
  | [],_ :: _,h,_=>by simp at h
  | _ :: _,[],h,_=>by simp at h
  | p :: ps,q :: qs,h,hall=>by
    rw [List.flatten_cons,List.flatten_cons]
    exact (hall 0 p q rfl rfl).app (Tells.flat (by simpa using h) fun i a b ha hb=>hall (i + 1) a b (by simpa using ha) (by simpa using hb))
theorem Tells.sc (x:Sc):Tells w [.s x] [x.toV]:=⟨.sc x .nil,fun c hc=>by rw [List.mem_singleton.1 hc]; rfl,rfl⟩
end
end Go.AM
namespace Go.AM
open Go
section
variable {P:Program}
def parts (P:Program) (d:Nat):List TypeId→List AV→Prop
  | [],azz=>azz=[]
  | u :: ts,azz=>∃a b,azz=a ++ b∧shp P d u a∧parts P d ts b
end
end Go.AM
namespace Go.AM
open Go
section
variable {P:Program}
end
end Go.AM
namespace Go.AM
open Go
variable {P:Program}
end Go.AM
