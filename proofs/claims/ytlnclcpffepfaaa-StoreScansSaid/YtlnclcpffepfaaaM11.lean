import Derived.Test.YtlnclcpffepfaaaM10
import Derived.Test.YtlnclcpffepfaaaM7
import Derived.OpenShut
import Derived.Carry
import Derived.ChangeOld
set_option linter.unusedSimpArgs false
set_option linter.unusedVariables false
namespace Go.AM
open Go
set_option maxRecDepth 20000
abbrev Sto:=List (Key×List Ver)
def ofQ (Q:Sto) (k:Key):List Ver:=match Q.find? fun p=>decide (p.1=k) with
  | some p=>p.2
  | none=>[]
def setQ (Q:Sto) (k:Key) (vs:List Ver):Sto:=match Q.find? fun p=>decide (p.1=k) with
  | some _=>Q.map fun p=>if p.1=k then (k,vs) else p
  | none=>Q ++ [(k,vs)]
structure CH where
  k:Key
  b:Nat
  vs:List Ver
def CH.p (c:CH):Key×List Ver:=(c.k,c.vs)
def chP (c:CH):AV := .ptr (.heap c.b) 0
def ChOK (vs:List Ver):Prop:=vs≠[]∧SorV vs∧vs.length≤50∧∀v∈vs,v.val.length≤200
structure StG (H:List HObj) (O:List Nat) (h hm:Nat) (l:List CH):Prop where
  at0:H[h]? = some (.cells [.map hm])
  map:∃es c,H[hm]? = some (.map es c)∧MapG kA CH.k chP es c l
  ch:∀c∈l,H[c.b]? = some (.cells [chK c.vs])
  nk:(l.map CH.k).Nodup
  nb:(l.map CH.b).Nodup
  ok:∀c∈l,ChOK c.vs
  own:h∈O∧hm∈O∧∀c∈l,c.b∈O
  low:∀i∈O,i < H.length
def StA (H:List HObj) (O:List Nat) (h:Nat) (Q:Sto):Prop:=∃hm l,StG H O h hm l∧l.map CH.p=Q
section
variable {H H':List HObj} {O O' k:List Nat} {h hm:Nat} {l:List CH} {Q:Sto}
theorem StG.keep (t:StG H O h hm l) (e:KeepF H H' k) (e1:∀i∈O,i∉k):StG H' O h hm l:=by
  obtain ⟨es,c,a,g⟩:=t.map
  exact ⟨e.get t.at0 (e1 _ t.own.1),⟨es,c,e.get a (e1 _ t.own.2.1),g⟩,fun c hc=>e.get (t.ch c hc) (e1 _ (t.own.2.2 c hc)),t.nk,t.nb,t.ok,t.own,fun i hi=>Nat.lt_of_lt_of_le (t.low i hi) e.1⟩
theorem StG.app {G:List HObj} (t:StG H O h hm l):StG (H ++ G) O h hm l:=t.keep (k:=[]) .app fun _ _ q=>by cases q
theorem StA.keep (t:StA H O h Q) (e:KeepF H H' k) (e1:∀i∈O,i∉k):StA H' O h Q:=by
  obtain ⟨hm,l,t,q⟩:=t
  exact ⟨hm,l,t.keep e e1,q⟩
theorem StA.app {G:List HObj} (t:StA H O h Q):StA (H ++ G) O h Q:=t.keep (k:=[]) .app fun _ _ q=>by cases q
theorem StA.low (t:StA H O h Q):∀i∈O,i < H.length:=by
  obtain ⟨hm,l,t,q⟩:=t
  exact t.low
theorem StA.hin (t:StA H O h Q):h∈O:=by
  obtain ⟨hm,l,t,q⟩:=t
  exact t.own.1
theorem find_CH (l:List CH) (x:Key):(l.map CH.p).find? (fun p=>decide (p.1=x))=(getB CH.k l x).map CH.p:=by
  unfold getB
  induction l with
  | nil=>rfl
  | cons c l ih =>
    rw [List.map_cons,List.find?_cons,List.find?_cons]
    show (match decide (c.k=x) with | true=>some c.p | false=>_)=_
    cases decide (c.k=x) with
    | true=>rfl
    | false=>exact ih
theorem ofQ_none {x:Key} (e:getB CH.k l x=none):ofQ (l.map CH.p) x=[]:=by unfold ofQ; rw [find_CH,e]; rfl
theorem ofQ_some {x:Key} {c:CH} (e:getB CH.k l x=some c):ofQ (l.map CH.p) x=c.vs:=by unfold ofQ; rw [find_CH,e]; rfl
theorem setQ_put (l:List CH) (c:CH):setQ (l.map CH.p) c.k c.vs=(putM CH.k l c).map CH.p:=by
  unfold setQ putM
  rw [find_CH]
  cases getB CH.k l c.k with
  | none=>simp [CH.p]
  | some y =>
    simp only [Option.map_some,List.map_map]
    refine List.map_congr_left fun z _ => ?_
    show (if z.k=c.k then (c.k,c.vs) else z.p)=(if z.k=c.k then c else z).p
    by_cases h:z.k=c.k <;> simp [h,CH.p]
theorem getB_some_iff {β κ:Type} [DecidableEq κ] {kp:β→κ} {l:List β} {x:κ} {y:β} (h:getB kp l x=some y):y∈l∧kp y=x:=⟨List.mem_of_find?_eq_some h,by have:=List.find?_some h; exact of_decide_eq_true this⟩
theorem lookS (t:StG H O h hm l) {S:List (List AV)} (x:Key) (ok:Bool):lookupL (.leaf lk) (.s .nilP) ok (.map hm) (.agg (bs x.b)) ⟨S,H⟩=some (lookR chP (.s .nilP) ok (getB CH.k l x)):=by
  obtain ⟨es,c,a,g⟩:=t.map
  exact map_look keyK_key (S:=S) (k:=x) a g.rel
theorem lenS (t:StG H O h hm l) {S:List (List AV)}:lenL .map (.map hm) ⟨S,H⟩=some l.length:=by
  obtain ⟨es,c,a,g⟩:=t.map
  have hlen:es.length=l.length:=by have:=congrArg List.length g.rel; simpa [RelM] using this
  simp [lenL,a,hlen]
theorem StG.setc (t:StG H O h hm l) {c:CH} (hc:c∈l) {vs:List Ver} (hv:ChOK vs):StG (H.set c.b (.cells [chK vs])) O h hm (putM CH.k l { c with vs:=vs }):=by
  obtain ⟨es,cc,a,g⟩:=t.map
  have nkeys:(putM CH.k l { c with vs:=vs }).map CH.k=l.map CH.k:=by
    unfold putM
    have:∃y,getB CH.k l c.k=some y:=by
      cases q:getB CH.k l c.k with
      | none=>exact absurd rfl (getB_none q c hc)
      | some y=>exact ⟨y,rfl⟩
    obtain ⟨y,hy⟩:=this
    simp only [hy,List.map_map]
    refine List.map_congr_left fun z _ => ?_
    show CH.k (if z.k=c.k then _ else z)=z.k
    by_cases h:z.k=c.k <;> simp [h]
  have hput:putM CH.k l { c with vs:=vs }=l.map fun z=>if z.k=c.k then { c with vs:=vs } else z:=by
    unfold putM
    have:∃y,getB CH.k l c.k=some y:=by
      cases q:getB CH.k l c.k with
      | none=>exact absurd rfl (getB_none q c hc)
      | some y=>exact ⟨y,rfl⟩
    obtain ⟨y,hy⟩:=this
    simp only [hy]
  have hself':∀z∈l,z.k=c.k→z=c:=fun z hz e=>by
    obtain ⟨i,hi,rfl⟩:=List.mem_iff_getElem.1 hz
    obtain ⟨j,hj,rfl⟩:=List.mem_iff_getElem.1 hc
    rcases Nat.lt_trichotomy i j with q | q | q
    · have:=List.pairwise_iff_getElem.1 t.nk i j (by simpa using hi) (by simpa using hj) q
      simp at this; exact absurd e this
    · subst q; rfl
    · have:=List.pairwise_iff_getElem.1 t.nk j i (by simpa using hj) (by simpa using hi) q
      simp at this; exact absurd e.symm this
  have nbs:(putM CH.k l { c with vs:=vs }).map CH.b=l.map CH.b:=by
    rw [hput,List.map_map]
    refine List.map_congr_left fun z hz => ?_
    show CH.b (if z.k=c.k then _ else z)=z.b
    by_cases h:z.k=c.k
    · rw [if_pos h,hself' z hz h]
    · rw [if_neg h]
  have hne:∀{j:Nat} {o:HObj},H[j]? = some o→o≠.cells [chK c.vs]→c.b≠j:=fun e n q=>by
    subst q
    rw [t.ch c hc] at e
    exact n (Option.some.inj e).symm
  have hch:∀x:List Ver,HObj.cells [.map hm]≠.cells [chK x]:=fun x q=>by
    injection q with q
    injection q with q _
    unfold chK at q
    cases x <;> cases q
  refine ⟨hset (hne t.at0 (hch _)) t.at0,⟨es,cc,hset (hne a (by simp)) a,?_,g.nd,g.lt⟩,fun z hz => ?_,by rw [nkeys]; exact t.nk,by rw [nbs]; exact t.nb,fun z hz => ?_,⟨t.own.1,t.own.2.1,fun z hz => ?_⟩,fun i hi=>by rw [List.length_set]; exact t.low i hi⟩
  · have hr:=g.rel
    unfold RelM at hr ⊢
    rw [hr,hput,List.map_map]
    refine List.map_congr_left fun z hz => ?_
    show (kA z.k,chP z)=(kA (CH.k (if z.k=c.k then _ else z)),chP (if z.k=c.k then _ else z))
    by_cases h:z.k=c.k
    · rw [if_pos h,hself' z hz h]; rfl
    · rw [if_neg h]
  · rw [hput] at hz
    obtain ⟨y,hy,rfl⟩:=List.mem_map.1 hz
    by_cases h:y.k=c.k
    · rw [if_pos h]
      exact hself (t.ch c hc)
    · rw [if_neg h]
      refine hset (fun q => ?_) (t.ch y hy)
      have:y=c:=by
        obtain ⟨i,hi,rfl⟩:=List.mem_iff_getElem.1 hy
        obtain ⟨j,hj,rfl⟩:=List.mem_iff_getElem.1 hc
        rcases Nat.lt_trichotomy i j with r | r | r
        · have:=List.pairwise_iff_getElem.1 t.nb i j (by simpa using hi) (by simpa using hj) r
          simp at this; exact absurd q.symm this
        · subst r; rfl
        · have:=List.pairwise_iff_getElem.1 t.nb j i (by simpa using hj) (by simpa using hi) r
          simp at this; exact absurd q this
      exact h (by rw [this])
  · rw [hput] at hz
    obtain ⟨y,hy,rfl⟩:=List.mem_map.1 hz
    by_cases h:y.k=c.k
    · rw [if_pos h]; exact hv
    · rw [if_neg h]; exact t.ok y hy
  · rw [hput] at hz
    obtain ⟨y,hy,rfl⟩:=List.mem_map.1 hz
    by_cases h:y.k=c.k
    · rw [if_pos h]; exact t.own.2.2 c hc
    · rw [if_neg h]; exact t.own.2.2 y hy
theorem StG.addc (t:StG H O h hm l) {x:Key} (hn:getB CH.k l x=none) {b:Nat} {vs:List Ver} (hb:H[b]? = some (.cells [chK vs])) (hbo:b∉O) (hv:ChOK vs) {S:List (List AV)}:∃es c,(∀S:List (List AV),updateL (.leaf lk) (.map hm) (.agg (bs x.b)) (.ptr (.heap b) 0) ⟨S,H⟩=some ⟨S,H.set hm (.map es c)⟩)∧StG (H.set hm (.map es c)) (O ++ [b]) h hm (putM CH.k l ⟨x,b,vs⟩):=by
  obtain ⟨es0,c0,a,g⟩:=t.map
  obtain ⟨es,c,q1,q2⟩:=MapG.upd keyK_key (x:=(⟨x,b,vs⟩:CH)) a g t.nk rfl
  have hput:putM CH.k l ⟨x,b,vs⟩=l ++ [⟨x,b,vs⟩]:=putM_new fun y hy e=>getB_none hn y hy e
  have hms:∀{j:Nat} {cs:List AV},H[j]? = some (.cells cs)→hm≠j:=fun e q=>by
    subst q
    rw [a] at e; cases e
  refine ⟨es,c,q1,hset (hms t.at0) t.at0,⟨es,c,hself a,q2⟩,fun z hz => ?_,?_,?_,fun z hz => ?_,⟨by simp [t.own.1],by simp [t.own.2.1],fun z hz => ?_⟩,fun i hi => ?_⟩
  · rw [hput] at hz
    rcases List.mem_append.1 hz with hz | hz
    · exact hset (hms (t.ch z hz)) (t.ch z hz)
    · have:=List.mem_singleton.1 hz
      subst this
      exact hset (hms hb) hb
  · rw [hput,List.map_append,List.nodup_append]
    exact ⟨t.nk,by simp,fun y hy z hz=>by
      obtain ⟨w,hw,rfl⟩:=List.mem_map.1 hy
      have:z=x:=by simpa using hz
      subst this
      exact getB_none hn w hw⟩
  · rw [hput,List.map_append,List.nodup_append]
    exact ⟨t.nb,by simp,fun y hy z hz e=>by
      obtain ⟨w,hw,rfl⟩:=List.mem_map.1 hy
      have:z=b:=by simpa using hz
      subst this
      exact hbo (e▸t.own.2.2 w hw)⟩
  · rw [hput] at hz
    rcases List.mem_append.1 hz with hz | hz
    · exact t.ok z hz
    · have:=List.mem_singleton.1 hz
      subst this
      exact hv
  · rw [hput] at hz
    rcases List.mem_append.1 hz with hz | hz
    · exact List.mem_append_left _ (t.own.2.2 z hz)
    · have:=List.mem_singleton.1 hz
      subst this
      simp
  · rw [List.length_set]
    rcases List.mem_append.1 hi with hi | hi
    · exact t.low i hi
    · have:=List.mem_singleton.1 hi
      subst this
      exact hlt hb
end
end Go.AM
namespace Go.AM
open Go
set_option maxRecDepth 20000
def ver0:Ver:=⟨⟨0,0⟩,[],false⟩
def ChX (X:AV) (vs:List Ver):Prop:=X=chK vs∨X=lstV vs∨(vs=[]∧∃fl,X = .list fl 4 [])
theorem bare_app:∀{a b:List AV},AV.bare.go (a ++ b)=(AV.bare.go a && AV.bare.go b)
  | [],b=>by simp [AV.bare.go]
  | x :: a,b=>by simp [AV.bare.go,bare_app (a:=a),Bool.and_assoc]
theorem bare_V:∀l:List Ver,AV.bare.go ((l.map verA).flatMap AV.cells)=true
  | []=>rfl
  | v :: l=>by rw [List.map_cons,List.flatMap_cons,bare_app,bare_V l]; rfl
theorem ro_ch {S:List (List AV)} {H:List HObj} {b:Nat} {X:AV} {vs:List Ver} (hb:H[b]? = some (.cells [X])) (hX:ChX X vs) {r r':List AV} (hr:RoL ⟨S,H⟩ r r'):RoL ⟨S,H⟩ (.ptr (.heap b) 0 :: r) (.rop [lstV vs] :: r'):=by
  have hbo:boxOf ⟨S,H⟩ (.heap b)=some [X]:=by simp [boxOf,hb]
  refine .ptr hbo ?_ (fun c hc => ?_) rfl hr
  · show RoL _ [X] [lstV vs]
    rcases hX with rfl | rfl | ⟨rfl,fl,rfl⟩
    · unfold chK lstV
      cases vs with
      | nil=>exact .nilS (by omega) .nil
      | cons v vs=>exact .list (bare_V _) .nil
    · exact .list (bare_V _) .nil
    · exact .list rfl .nil
  · have:=List.mem_singleton.1 hc
    subst this
    rfl
theorem ro_s {σ:St} {s:Stp}:RoL σ [.agg (stc s)] [.agg (stc s)] := .bare rfl .nil
theorem alone_of {P:Program} {C:CallW} (hk:KitW P C) {f:FuncId} {args bs:List AV} {σ:St} {v:AV} {K:AV→St→Prop} (hr:RoL σ args bs) (h:C (.fn f) bs ⟨[],[]⟩ fun u _=>u=v) (hv:v.alone=true) (hK:K v σ):C (.fn f) args σ K :=
  hk.alone f args bs σ K _ hr h fun u s e=>by subst e; exact ⟨hv,hK⟩
def RPlaceS (C:CallW) (f:FuncId):Prop:=∀(vs:List Ver) (s:Stp) S H (K:AV→St→Prop),SorV vs→vs.length≤1000→K (.tup [.s (.int .i64 (idxV vs s:Nat)),.s (.bool (hasV vs s))]) ⟨S,H⟩→C (.fn f) [.rop [lstV vs],.agg (stc s)] ⟨S,H⟩ K
def RHasS (C:CallW) (f:FuncId):Prop:=∀(vs:List Ver) (s:Stp) S H (K:AV→St→Prop),SorV vs→vs.length≤1000→K (.s (.bool (hasV vs s))) ⟨S,H⟩→C (.fn f) [.rop [lstV vs],.agg (stc s)] ⟨S,H⟩ K
def RUntS (C:CallW) (f:FuncId):Prop:=∀(vs:List Ver) (s:Stp) S H (K:AV→St→Prop),SorV vs→vs.length≤1000→K (.s (.int .i64 (untV vs s:Nat))) ⟨S,H⟩→C (.fn f) [.rop [lstV vs],.agg (stc s)] ⟨S,H⟩ K
def RAtS (C:CallW) (f:FuncId):Prop:=∀(vs:List Ver) (s:Stp) S H (K:AV→St→Prop),SorV vs→vs.length≤1000→K (.tup [.agg (verc ((atV vs s).getD ver0)),.s (.bool (atV vs s).isSome)]) ⟨S,H⟩→C (.fn f) [.rop [lstV vs],.agg (stc s)] ⟨S,H⟩ K
def RLenS (C:CallW) (f:FuncId):Prop:=∀(vs:List Ver) S H (K:AV→St→Prop),K (.s (.int .i64 (vs.length:Nat))) ⟨S,H⟩→C (.fn f) [.rop [lstV vs]] ⟨S,H⟩ K
def PHasS (C:CallW) (f:FuncId):Prop:=∀(b:Nat) (X:AV) (vs:List Ver) (s:Stp) S H (K:AV→St→Prop),H[b]? = some (.cells [X])→ChX X vs→SorV vs→vs.length≤1000→K (.s (.bool (hasV vs s))) ⟨S,H⟩→C (.fn f) [.ptr (.heap b) 0,.agg (stc s)] ⟨S,H⟩ K
def PPlaceS (C:CallW) (f:FuncId):Prop:=∀(b:Nat) (X:AV) (vs:List Ver) (s:Stp) S H (K:AV→St→Prop),H[b]? = some (.cells [X])→ChX X vs→SorV vs→vs.length≤1000→K (.tup [.s (.int .i64 (idxV vs s:Nat)),.s (.bool (hasV vs s))]) ⟨S,H⟩→C (.fn f) [.ptr (.heap b) 0,.agg (stc s)] ⟨S,H⟩ K
def PAtS (C:CallW) (f:FuncId):Prop:=∀(b:Nat) (X:AV) (vs:List Ver) (s:Stp) S H (K:AV→St→Prop),H[b]? = some (.cells [X])→ChX X vs→SorV vs→vs.length≤1000→K (.tup [.agg (verc ((atV vs s).getD ver0)),.s (.bool (atV vs s).isSome)]) ⟨S,H⟩→C (.fn f) [.ptr (.heap b) 0,.agg (stc s)] ⟨S,H⟩ K
def PLenS (C:CallW) (f:FuncId):Prop:=∀(b:Nat) (X:AV) (vs:List Ver) S H (K:AV→St→Prop),H[b]? = some (.cells [X])→ChX X vs→K (.s (.int .i64 (vs.length:Nat))) ⟨S,H⟩→C (.fn f) [.ptr (.heap b) 0] ⟨S,H⟩ K
def PPutS (C:CallW) (f:FuncId):Prop:=∀(b:Nat) (vs:List Ver) (v:Ver) S H (K:AV→St→Prop),H[b]? = some (.cells [chK vs])→SorV vs→vs.length≤50→K (.s (.int .i64 (putV vs v).1)) ⟨S,H.set b (.cells [chK (putV vs v).2])⟩→C (.fn f) [.ptr (.heap b) 0,.agg (verc v)] ⟨S,H⟩ K
section
variable {P:Program} {C:CallW} {f:FuncId}
theorem p_has (hk:KitW P C) (h:RHasS C f):PHasS C f:=fun b X vs s S H K hb hX h1 h2 hK=>alone_of hk (ro_ch hb hX ro_s) (h vs s _ _ _ h1 h2 rfl) rfl hK
theorem p_place (hk:KitW P C) (h:RPlaceS C f):PPlaceS C f:=fun b X vs s S H K hb hX h1 h2 hK=>alone_of hk (ro_ch hb hX ro_s) (h vs s _ _ _ h1 h2 rfl) rfl hK
theorem p_at (hk:KitW P C) (h:RAtS C f):PAtS C f:=fun b X vs s S H K hb hX h1 h2 hK=>alone_of hk (ro_ch hb hX ro_s) (h vs s _ _ _ h1 h2 rfl) rfl hK
theorem p_len (hk:KitW P C) (h:RLenS C f):PLenS C f:=fun b X vs S H K hb hX hK=>alone_of hk (ro_ch hb hX .nil) (h vs _ _ _ rfl) rfl hK
end
end Go.AM
namespace Go.AM
open Go
set_option maxRecDepth 20000
def y40a1:LCode:=(.seq (.sq [(zs 1 (.build [(.s .nilS)] [])),(zs 2 (.box false true (.t 1))),(zs 0 (.mv true (.t 2)))]) .ret)
def Uz59:=PLift.up (@unfC _ _ (y40a1.eq_1))
def Cz2y:LFn:=⟨3,[.t 0],(.seq (.sq [(zs 0 (.mv true (.c .nilP)))]) y40a1)⟩
def y40b1 (c:Nat→FuncId):LCode:=(.seq (.sq [(zs 5 (.shift 0 (.t 2))),(zs 6 (.loadA 2 (.t 5))),(zs 7 (.loadA 2 (.t 3))),(zs 8 (.call (.f (c 0)) [(.t 6),(.t 7)])),(zs 4 (.mv true (.t 8)))]) .ret)
def Uz1n (c:Nat→FuncId):=PLift.up (@unfC _ _ (y40b1.eq_1 c))
def Czu (c:Nat→FuncId):LFn:=⟨9,[.t 4],(.seq (.sq [(zs 2 (.box false false (.t 0))),(zs 3 (.box false false (.t 1))),(zs 4 (.mv true (zi 0)))]) (y40b1 c))⟩
def y40c1:LCode:=(.sq [(zv 32 11),(zs 33 (.bin .add .sc (.t 32) (zi 1))),(zs 9 (.mv true (.t 33)))])
def y40c2:LCode:=(.cond (.t 31) y40c1 (.sq [(zv 34 11),(zs 10 (.mv true (.t 34)))]))
def y40c3:LCode:=(.seq (.tree (.rd (zv 24 2) 0 false (.rd (zv 25 0) 1 false (.rd (zv 26 11) 2 false (.rd (zs 27 (.ixa (.sl 4) (.t 25) (.t 26))) 3 false (.rd (zs 28 (.loadA 4 (.t 27))) 4 false (.rd (zs 29 (.loadA 2 (.t 4))) 5 false (.mv (zs 30 (.call (.t 24) [(.t 28),(.t 29)])) [0,1,2,3,4,5] (.rd (zs 31 (.bin .lss .sc (.t 30) (zi 0))) 7 false .done) .stop)))))))) y40c2)
def y40c4:LCode:=(.block 1 (.seq (.sq [(zv 18 9),(zv 19 10),(zs 20 (.bin .add .sc (.t 18) (.t 19))),(zs 21 (.conv (.int .u64) (.t 20))),(zs 22 (.bin .shr .sc (.t 21) (.c (.int .u64 1)))),(zs 23 (.conv (.int .i64) (.t 22))),(zs 11 (.mv true (.t 23)))]) y40c3))
def y40c5:LCode:=(.seq (.seq (.sq [(zv 15 9),(zv 16 10),(zs 17 (.bin .lss .sc (.t 15) (.t 16)))]) (.cond (.t 17) .skip (.exit 0))) y40c4)
def y40c6:LCode:=(.seq (.tree (.rd (zv 35 9) 0 true (.rd (zv 36 9) 1 false (.rd (zv 37 8) 2 false (.rd (zs 38 (.bin .lss .sc (.t 36) (.t 37))) 3 false (.rd (zv 39 38) 4 false (.rd (zt 40 39 (.mv false (.t 2))) 5 false (.rd (zt 41 39 (.mv false (.t 0))) 6 false (.rd (zt 42 39 (.mv false (.t 9))) 7 false (.rd (zt 43 39 (.ixa (.sl 4) (.t 41) (.t 42))) 8 false (.rd (zt 44 39 (.loadA 4 (.t 43))) 9 false (.rd (zt 45 39 (.loadA 2 (.t 4))) 10 false (.mv (zt 46 39 (.call (.t 40) [(.t 44),(.t 45)])) [1,2,3,4,5,6,7,8,9,10] (.rd (zt 47 39 (.bin .eql .sc (.t 46) (zi 0))) 12 true (.rd (zs 48 (.pick (.t 39) (.t 47) zF)) 13 true (.mv (zs 6 (.mv true (.t 35))) [0,1,2,3,4,5,6,7,8,9,10,11] (.mv (zs 7 (.mv true (.t 48))) [0,1,2,3,4,5,6,7,8,9,10,11,12,13,14] .done .stop) .stop))) .stop))))))))))))) .ret)
def y40c7:LCode:=(.seq (.block 0 (.loop (zm false [0,1,1,1,1,1,3,3,38]) y40c5)) y40c6)
def y40c8:LCode:=(.seq (.sq [(zv 14 8),(zs 9 (.mv true (zi 0))),(zs 10 (.mv true (.t 14)))]) y40c7)
def y40c9:LCode:=(.seq (.sq [(zv 12 0),(zs 13 (.len .sl (.t 12))),(zs 8 (.mv true (.t 13)))]) y40c8)
def Uz7:=PLift.up (zc (zc (zc (@unfC _ _ (y40c1.eq_1)) (@unfC _ _ (y40c2.eq_1))) (zc (@unfC _ _ (y40c3.eq_1)) (@unfC _ _ (y40c4.eq_1)))) (zc (zc (@unfC _ _ (y40c5.eq_1)) (@unfC _ _ (y40c6.eq_1))) (zc (@unfC _ _ (y40c7.eq_1)) (zc (@unfC _ _ (y40c8.eq_1)) (@unfC _ _ (y40c9.eq_1))))))
def Cz2:LFn:=⟨49,[.t 6,.t 7],(.seq (.sq [(zs 4 (.box false false (.t 1))),(zs 6 (.mv true (zi 0))),(zs 7 (.mv true zF))]) y40c9)⟩
def y40d1 (c:Nat→FuncId):LCode:=(.seq (.tree (.rd (zv 6 0) 0 false (.rd (zs 7 (.nilc (.t 6))) 1 false (.rd (zs 8 (.shift 0 (.t 7))) 2 false (.rd (zs 9 (.load1 false (.t 8))) 3 false (.rd (zs 10 (.loadA 2 (.t 3))) 4 false (.mv (zs 11 (.call (.f (c 0)) [(.t 9),(.t 10),(.f (c 1))])) [0,1,2,3,4] (.rd (zs 12 (.ext (.t 11) 0)) 6 false (.rd (zs 13 (.ext (.t 11) 1)) 7 false (.mv (zs 4 (.mv true (.t 12))) [0,1,2,3,4,5,6,7] (.mv (zs 5 (.mv true (.t 13))) [0,1,2,3,4,5,6,7,8] .done .stop) .stop))) .stop))))))) .ret)
def Uz1t (c:Nat→FuncId):=PLift.up (@unfC _ _ (y40d1.eq_1 c))
def Czz (c:Nat→FuncId):LFn:=⟨14,[.t 4,.t 5],(.seq (.sq [(zs 3 (.box false false (.t 1))),(zs 4 (.mv true (zi 0))),(zs 5 (.mv true zF))]) (y40d1 c))⟩
def y40e1 (c:Nat→FuncId):LCode:=(.seq (.sq [(zv 8 0),(zs 9 (.loadA 2 (.t 3))),(zs 10 (.call (.f (c 0)) [(.t 8),(.t 9)])),(zv 7 10),(zs 11 (.ext (.t 7) 0)),(zs 12 (.ext (.t 7) 1)),(zs 5 (.mv true (.t 11))),(zs 6 (.mv true (.t 12)))]) (.seq (.sq [(zv 13 6),(zs 4 (.mv true (.t 13)))]) .ret))
def Uz24 (c:Nat→FuncId):=PLift.up (@unfC _ _ (y40e1.eq_1 c))
def Cz16 (c:Nat→FuncId):LFn:=⟨14,[.t 4],(.seq (.sq [(zs 3 (.box false false (.t 1))),(zs 4 (.mv true zF))]) (y40e1 c))⟩
def y40f1 (c:Nat→FuncId):LCode:=(.sq [(zv 14 5),(zs 15 (.bin .add .sc (.t 14) (zi 1))),(zs 5 (.mv true (.t 15)))])
def y40f2 (c:Nat→FuncId):LCode:=(.seq (.seq (.sq [(zv 13 6)]) (.cond (.t 13) (y40f1 c) .skip)) (.seq (.sq [(zv 16 5),(zs 4 (.mv true (.t 16)))]) .ret))
def y40f3 (c:Nat→FuncId):LCode:=(.seq (.sq [(zv 8 0),(zs 9 (.loadA 2 (.t 3))),(zs 10 (.call (.f (c 0)) [(.t 8),(.t 9)])),(zv 7 10),(zs 11 (.ext (.t 7) 0)),(zs 12 (.ext (.t 7) 1)),(zs 5 (.mv true (.t 11))),(zs 6 (.mv true (.t 12)))]) (y40f2 c))
def Uz1c (c:Nat→FuncId):=PLift.up (zc (@unfC _ _ (y40f1.eq_1 c)) (zc (@unfC _ _ (y40f2.eq_1 c)) (@unfC _ _ (y40f3.eq_1 c))))
def Czr (c:Nat→FuncId):LFn:=⟨17,[.t 4],(.seq (.sq [(zs 3 (.box false false (.t 1))),(zs 4 (.mv true (zi 0)))]) (y40f3 c))⟩
def y40g1 (c:Nat→FuncId):LCode:=(.seq (.sq [(zs 12 (.build [(.s (.int .i64 0)),(.s (.int .u8 0)),(.s (.str [])),(.s (.bool false))] [])),(zn (.store 4 (.t 4) (.t 12))),(zs 5 (.mv true zF))]) .ret)
def y40g2 (c:Nat→FuncId):LCode:=(.seq (.sq [(zv 13 0),(zs 14 (.nilc (.t 13))),(zs 15 (.shift 0 (.t 14))),(zs 16 (.load1 false (.t 15))),(zv 17 6),(zs 18 (.bin .sub .sc (.t 17) (zi 1))),(zs 19 (.ixa (.sl 4) (.t 16) (.t 18))),(zs 20 (.loadA 4 (.t 19))),(zn (.store 4 (.t 4) (.t 20))),(zs 5 (.mv true zT))]) .ret)
def y40g3 (c:Nat→FuncId):LCode:=(.seq (.seq (.sq [(zv 10 6),(zs 11 (.bin .eql .sc (.t 10) (zi 0)))]) (.cond (.t 11) (y40g1 c) .skip)) (y40g2 c))
def y40g4 (c:Nat→FuncId):LCode:=(.seq (.sq [(zv 7 0),(zs 8 (.loadA 2 (.t 3))),(zs 9 (.call (.f (c 0)) [(.t 7),(.t 8)])),(zs 6 (.mv true (.t 9)))]) (y40g3 c))
def Uz1p (c:Nat→FuncId):=PLift.up (zc (zc (@unfC _ _ (y40g1.eq_1 c)) (@unfC _ _ (y40g2.eq_1 c))) (zc (@unfC _ _ (y40g3.eq_1 c)) (@unfC _ _ (y40g4.eq_1 c))))
def Cz10 (c:Nat→FuncId):LFn:=⟨21,[.many 4 4,.t 5],(.seq (.sq [(zs 3 (.box false false (.t 1))),(zs 4 (.alloc false [(.s (.int .i64 0)),(.s (.int .u8 0)),(.s (.str [])),(.s (.bool false))])),(zs 5 (.mv true zF))]) (y40g4 c))⟩
def y40i1:LCode:=(.seq (.sq [(zv 3 0),(zs 4 (.nilc (.t 3))),(zs 5 (.shift 0 (.t 4))),(zs 6 (.load1 false (.t 5))),(zs 7 (.len .sl (.t 6))),(zs 2 (.mv true (.t 7)))]) .ret)
def Uz39:=PLift.up (@unfC _ _ (y40i1.eq_1))
def Cz1j:LFn:=⟨8,[.t 2],(.seq (.sq [(zs 2 (.mv true (zi 0)))]) y40i1)⟩
def y40l1 (c:Nat→FuncId):LCode:=(.seq (.sq [(zv 36 0),(zs 37 (.nilc (.t 36))),(zs 38 (.shift 0 (.t 37))),(zs 39 (.load1 false (.t 38))),(zs 40 (.len .sl (.t 39))),(zs 41 (.bin .geq .sc (.t 40) (zi 50))),(zs 35 (.mv true (.t 41)))]) (.cond (.t 35) (.seq (.sq [(zs 4 (.mv true (zi 6)))]) .ret) .skip))
def y40l2 (c:Nat→FuncId):LCode:=(.seq (.tree (.rd (zv 42 0) 0 true (.rd (zv 43 0) 1 false (.rd (zs 44 (.nilc (.t 43))) 2 false (.rd (zs 45 (.shift 0 (.t 44))) 3 false (.rd (zv 47 5) 5 true (.rd (zs 48 (.loadA 4 (.t 3))) 6 true (.rd (zs 49 (.bsl ⟨4,true,40,(.agg [(.s (.int .i64 0)),(.s (.int .u8 0)),(.s (.str [])),(.s (.bool false))])⟩ 1 [(0,(.t 48))])) 7 true (.mv (zs 46 (.load1 true (.t 45))) [1,2,3] (.mv (zs 50 (.call (.f (c 2)) [(.t 46),(.t 47),(.t 49)])) [1,2,3,4,5,6,7] (.rd (zs 51 (.nilc (.t 42))) 9 false (.rd (zs 52 (.shift 0 (.t 51))) 10 false (.mv (zn (.stu (.t 52) (.t 50))) [0,1,2,3,4,5,6,7,8,9,10] .done .stop))) .stop) .stop))))))))) (.seq (.sq [(zs 4 (.mv true (zi 0)))]) .ret))
def y40l3 (c:Nat→FuncId):LCode:=(.seq (.block 0 (.seq (.sq [(zv 34 6),(zs 33 (.mv true (.t 34)))]) (.cond (.t 33) (.seq (.sq [(zs 4 (.mv true (zi 5)))]) .ret) (y40l1 c)))) (y40l2 c))
def y40l4 (c:Nat→FuncId):LCode:=(.seq (.sq [(zv 27 0),(zs 28 (.shift 0 (.t 3))),(zs 29 (.loadA 2 (.t 28))),(zs 30 (.call (.f (c 1)) [(.t 27),(.t 29)])),(zv 26 30),(zs 31 (.ext (.t 26) 0)),(zs 32 (.ext (.t 26) 1)),(zs 5 (.mv true (.t 31))),(zs 6 (.mv true (.t 32)))]) (y40l3 c))
def y40l5 (c:Nat→FuncId):LCode:=(.seq (.seq (.sq [(zs 7 (.shift 0 (.t 3))),(zs 8 (.loadA 2 (.t 7))),(zs 9 (.call (.f (c 0)) [(.t 8)])),(zs 10 (.un .not (.t 9))),(zv 11 10),(zf 12 11 (.shift 2 (.t 3))),(zf 13 11 (.load1 false (.t 12))),(zf 14 11 (.len .str (.t 13))),(zf 15 11 (.bin .gtr .sc (.t 14) (zi 200))),(zs 16 (.pick (.t 11) zT (.t 15))),(zv 17 16),(zf 18 17 (.shift 3 (.t 3))),(zf 19 17 (.load1 false (.t 18))),(zf 20 17 (.mv false (.t 19))),(zt 21 20 (.shift 2 (.t 3))),(zt 22 20 (.load1 false (.t 21))),(zt 23 20 (.bin .neq .sc (.t 22) (.c (.str [])))),(zf 24 17 (.pick (.t 20) (.t 23) zF)),(zs 25 (.pick (.t 17) zT (.t 24)))]) (.cond (.t 25) (.seq (.sq [(zs 4 (.mv true (zi 1)))]) .ret) .skip)) (y40l4 c))
def Uz8 (c:Nat→FuncId):=PLift.up (zc (zc (@unfC _ _ (y40l1.eq_1 c)) (@unfC _ _ (y40l2.eq_1 c))) (zc (@unfC _ _ (y40l3.eq_1 c)) (zc (@unfC _ _ (y40l4.eq_1 c)) (@unfC _ _ (y40l5.eq_1 c)))))
def Cz5 (c:Nat→FuncId):LFn:=⟨53,[.t 4],(.seq (.sq [(zs 3 (.box false false (.t 1))),(zs 4 (.mv true (zi 0)))]) (y40l5 c))⟩
def y40n1:LCode:=(.seq (.sq [(zs 1 (.mkmap none)),(zs 2 (.build [(.s .nilM)] [(0,1,(.t 1))])),(zs 3 (.box false true (.t 2))),(zs 0 (.mv true (.t 3)))]) .ret)
def Uz5a:=PLift.up (@unfC _ _ (y40n1.eq_1))
def Cz2z:LFn:=⟨4,[.t 0],(.seq (.sq [(zs 0 (.mv true (.c .nilP)))]) y40n1)⟩
def y40o1 (c:Nat→FuncId):LCode:=(.seq (.seq (.sq [(zv 12 5),(zs 13 (.bin .eql (.ref 0) (.t 12) (.c .nilP)))]) (.cond (.t 13) (.seq (.sq [(zs 14 (.call (.f (c 0)) [])),(zs 4 (.mv true (.t 14)))]) .ret) .skip)) (.seq (.sq [(zv 15 5),(zs 4 (.mv true (.t 15)))]) .ret))
def y40o2 (c:Nat→FuncId):LCode:=(.seq (.tree (.rd (zv 6 0) 0 false (.rd (zs 7 (.nilc (.t 6))) 1 false (.rd (zs 8 (.shift 0 (.t 7))) 2 false (.rd (zs 9 (.load1 false (.t 8))) 3 false (.rd (zs 10 (.loadA 16 (.t 3))) 4 false (.rd (zs 11 (.look (.leaf lk) (.s .nilP) false (.t 9) (.t 10))) 5 false (.mv (zs 5 (.mv true (.t 11))) [0,1,2,3,4,5] .done .stop)))))))) (y40o1 c))
def Uz1q (c:Nat→FuncId):=PLift.up (zc (@unfC _ _ (y40o1.eq_1 c)) (@unfC _ _ (y40o2.eq_1 c)))
def Cz11 (c:Nat→FuncId):LFn:=⟨16,[.t 4],(.seq (.sq [(zs 3 (.box false false (.t 1))),(zs 4 (.mv true (.c .nilP)))]) (y40o2 c))⟩
def y40p1 (c:Nat→FuncId):LCode:=(.sq [(zv 27 5),(zs 28 (.bin .add .sc (.t 27) (zi 1))),(zs 5 (.mv true (.t 28)))])
def y40p2 (c:Nat→FuncId):LCode:=(.seq (.sq [(zv 29 0),(zs 30 (.shift 0 (.t 7))),(zs 31 (.loadA 16 (.t 30))),(zs 32 (.call (.f (c 0)) [(.t 29),(.t 31)])),(zs 33 (.call (.f (c 1)) [(.t 32)])),(zs 34 (.bin .geq .sc (.t 33) (zi 50)))]) (.cond (.t 34) (.seq (.sq [(zs 4 (.mv true zF))]) .ret) .skip))
def y40p3 (c:Nat→FuncId):LCode:=(.seq (.seq (.tree (.rd (zv 19 0) 0 false (.rd (zs 20 (.nilc (.t 19))) 1 false (.rd (zs 21 (.shift 0 (.t 20))) 2 false (.rd (zs 22 (.load1 false (.t 21))) 3 false (.rd (zs 23 (.shift 0 (.t 7))) 4 false (.rd (zs 24 (.loadA 16 (.t 23))) 5 false (.rd (zs 25 (.look (.leaf lk) (.s .nilP) false (.t 22) (.t 24))) 6 false (.rd (zs 26 (.bin .eql (.ref 0) (.t 25) (.c .nilP))) 7 false .done))))))))) (.cond (.t 26) (y40p1 c) .skip)) (y40p2 c))
def y40p4 (c:Nat→FuncId):LCode:=(.seq (.block 1 (.seq (.sq [(zs 17 (.ixa (.sl 18) (.t 13) (.t 15))),(zs 18 (.loadA 18 (.t 17))),(zs 7 (.alloc false (zk ++ [(.s (.str [])),(.s (.bool false))]))),(zn (.store 18 (.t 7) (.t 18)))]) (y40p3 c))) (.sq [(zs 35 (.bin .add .sc (.t 15) (zi 1))),(zv 15 35)]))
def y40p5 (c:Nat→FuncId):LCode:=(.seq (.sq [(zs 16 (.bin .lss .sc (.t 15) (.t 14)))]) (.seq (.cond (.t 16) .skip (.exit 0)) (y40p4 c)))
def y40p6 (c:Nat→FuncId):LCode:=(.block 0 (.loop (zm false [0,1,4,1,7,3,22]) (y40p5 c)))
def y40p7 (c:Nat→FuncId):LCode:=(.seq (.sq [(zv 36 5),(zs 37 (.bin .leq .sc (.t 36) (zi 200))),(zs 4 (.mv true (.t 37)))]) .ret)
def y40p8 (c:Nat→FuncId):LCode:=(.seq (.seq (.sq [(zv 13 1),(zs 14 (.len .sl (.t 13))),(zs 15 (.mv false (zi 0)))]) (y40p6 c)) (y40p7 c))
def y40p9 (c:Nat→FuncId):LCode:=(.seq (.sq [(zv 8 0),(zs 9 (.nilc (.t 8))),(zs 10 (.shift 0 (.t 9))),(zs 11 (.load1 false (.t 10))),(zs 12 (.len .map (.t 11))),(zs 5 (.mv true (.t 12)))]) (y40p8 c))
def Uzg (c:Nat→FuncId):=PLift.up (zc (zc (zc (@unfC _ _ (y40p1.eq_1 c)) (@unfC _ _ (y40p2.eq_1 c))) (zc (@unfC _ _ (y40p3.eq_1 c)) (@unfC _ _ (y40p4.eq_1 c)))) (zc (zc (@unfC _ _ (y40p5.eq_1 c)) (@unfC _ _ (y40p6.eq_1 c))) (zc (@unfC _ _ (y40p7.eq_1 c)) (zc (@unfC _ _ (y40p8.eq_1 c)) (@unfC _ _ (y40p9.eq_1 c))))))
def Cz1e (c:Nat→FuncId):LFn:=⟨38,[.t 4],(.seq (.sq [(zs 4 (.mv true zF))]) (y40p9 c))⟩
def y40q1 (c:Nat→FuncId):LCode:=(.seq (.tree (.rd (zv 31 0) 0 false (.rd (zs 32 (.shift 0 (.t 8))) 1 false (.rd (zs 33 (.loadA 16 (.t 32))) 2 false (.rd (zs 35 (.loadA 2 (.t 4))) 4 true (.mv (zs 34 (.call (.f (c 3)) [(.t 31),(.t 33)])) [0,1,2] (.mv (zs 36 (.call (.f (c 4)) [(.t 34),(.t 35)])) [0,1,2,3,4] .done .stop) .stop)))))) (.cond (.t 36) (.seq (.sq [(zs 6 (.mv true (zi 5)))]) .ret) .skip))
def y40q2 (c:Nat→FuncId):LCode:=(.seq (.block 1 (.seq (.sq [(zs 29 (.ixa (.sl 18) (.t 25) (.t 27))),(zs 30 (.loadA 18 (.t 29))),(zs 8 (.alloc false (zk ++ [(.s (.str [])),(.s (.bool false))]))),(zn (.store 18 (.t 8) (.t 30)))]) (y40q1 c))) (.sq [(zs 37 (.bin .add .sc (.t 27) (zi 1))),(zv 27 37)]))
def y40q3 (c:Nat→FuncId):LCode:=(.seq (.sq [(zs 28 (.bin .lss .sc (.t 27) (.t 26)))]) (.seq (.cond (.t 28) .skip (.exit 0)) (y40q2 c)))
def y40q4 (c:Nat→FuncId):LCode:=(.block 0 (.loop (zm false [0,1,1,1,1,1,20,3,40]) (y40q3 c)))
def y40q5 (c:Nat→FuncId):LCode:=(.tree (.rd (zv 60 0) 0 false (.rd (zs 61 (.nilc (.t 60))) 1 false (.rd (zs 62 (.shift 0 (.t 61))) 2 false (.rd (zs 63 (.load1 false (.t 62))) 3 false (.rd (zs 64 (.shift 0 (.t 10))) 4 false (.rd (zs 65 (.loadA 16 (.t 64))) 5 false (.rd (zv 66 11) 6 false (.mv (zn (.upd (.leaf lk) (.t 63) (.t 65) (.t 66))) [0,1,2,3,4,5,6] .done .stop)))))))))
def y40q6 (c:Nat→FuncId):LCode:=(.seq (.sq [(zv 52 11),(zs 53 (.loadA 2 (.t 4))),(zs 54 (.shift 16 (.t 10))),(zs 55 (.load1 false (.t 54))),(zs 56 (.shift 17 (.t 10))),(zs 57 (.load1 false (.t 56))),(zs 58 (.build [(.s (.int .i64 0)),(.s (.int .u8 0)),(.s (.str [])),(.s (.bool false))] [(0,2,(.t 53)),(2,1,(.t 55)),(3,1,(.t 57))])),(zs 59 (.call (.f (c 6)) [(.t 52),(.t 58)]))]) (y40q5 c))
def y40q7 (c:Nat→FuncId):LCode:=(.seq (.sq [(zv 48 0),(zs 49 (.shift 0 (.t 10))),(zs 50 (.loadA 16 (.t 49))),(zs 51 (.call (.f (c 3)) [(.t 48),(.t 50)])),(zs 11 (.mv true (.t 51)))]) (y40q6 c))
def y40q8 (c:Nat→FuncId):LCode:=(.seq (.block 3 (.seq (.sq [(zs 46 (.ixa (.sl 18) (.t 42) (.t 44))),(zs 47 (.loadA 18 (.t 46))),(zs 10 (.alloc false (zk ++ [(.s (.str [])),(.s (.bool false))]))),(zn (.store 18 (.t 10) (.t 47)))]) (y40q7 c))) (.sq [(zs 67 (.bin .add .sc (.t 44) (zi 1))),(zv 44 67)]))
def y40q9 (c:Nat→FuncId):LCode:=(.seq (.sq [(zs 45 (.bin .lss .sc (.t 44) (.t 43)))]) (.seq (.cond (.t 45) .skip (.exit 2)) (y40q8 c)))
def y40q10 (c:Nat→FuncId):LCode:=(.block 2 (.loop (zm false [0,1,3,1,37,3,23]) (y40q9 c)))
def y40q11 (c:Nat→FuncId):LCode:=(.seq (.seq (.sq [(zv 42 2),(zs 43 (.len .sl (.t 42))),(zs 44 (.mv false (zi 0)))]) (y40q10 c)) (.seq (.sq [(zs 6 (.mv true (zi 0)))]) .ret))
def y40q12 (c:Nat→FuncId):LCode:=(.seq (.seq (.sq [(zv 38 0),(zv 39 2),(zs 40 (.call (.f (c 5)) [(.t 38),(.t 39)])),(zs 41 (.un .not (.t 40)))]) (.cond (.t 41) (.seq (.sq [(zs 6 (.mv true (zi 6)))]) .ret) .skip)) (y40q11 c))
def y40q13 (c:Nat→FuncId):LCode:=(.seq (.seq (.sq [(zv 25 2),(zs 26 (.len .sl (.t 25))),(zs 27 (.mv false (zi 0)))]) (y40q4 c)) (y40q12 c))
def y40q14 (c:Nat→FuncId):LCode:=(.seq (.seq (.sq [(zs 12 (.loadA 2 (.t 4))),(zs 13 (.call (.f (c 0)) [(.t 12)])),(zs 14 (.un .not (.t 13))),(zv 15 14),(zf 16 15 (.mv false (.t 2))),(zf 17 15 (.call (.f (c 1)) [(.t 16)])),(zf 18 15 (.un .not (.t 17))),(zs 19 (.pick (.t 15) zT (.t 18))),(zv 20 19),(zf 21 20 (.mv false (.t 2))),(zf 22 20 (.call (.f (c 2)) [(.t 21)])),(zf 23 20 (.un .not (.t 22))),(zs 24 (.pick (.t 20) zT (.t 23)))]) (.cond (.t 24) (.seq (.sq [(zs 6 (.mv true (zi 1)))]) .ret) .skip)) (y40q13 c))
def Uz1 (c:Nat→FuncId):=PLift.up (zc (zc (zc (@unfC _ _ (y40q1.eq_1 c)) (zc (@unfC _ _ (y40q2.eq_1 c)) (@unfC _ _ (y40q3.eq_1 c)))) (zc (zc (@unfC _ _ (y40q4.eq_1 c)) (@unfC _ _ (y40q5.eq_1 c))) (zc (@unfC _ _ (y40q6.eq_1 c)) (@unfC _ _ (y40q7.eq_1 c))))) (zc (zc (@unfC _ _ (y40q8.eq_1 c)) (zc (@unfC _ _ (y40q9.eq_1 c)) (@unfC _ _ (y40q10.eq_1 c)))) (zc (zc (@unfC _ _ (y40q11.eq_1 c)) (@unfC _ _ (y40q12.eq_1 c))) (zc (@unfC _ _ (y40q13.eq_1 c)) (@unfC _ _ (y40q14.eq_1 c))))))
def Czd (c:Nat→FuncId):LFn:=⟨68,[.t 6],(.seq (.sq [(zs 4 (.box false false (.t 1))),(zs 6 (.mv true (zi 0)))]) (y40q14 c))⟩
def y40r1 (c:Nat→FuncId):LCode:=(.cond (.t 23) (.seq (.sq [(zs 6 (.mv true (.c (.str [])))),(zs 7 (.mv true zF))]) .ret) .skip)
def y40r2 (c:Nat→FuncId):LCode:=(.seq (.sq [(zs 24 (.shift 2 (.t 8))),(zs 25 (.load1 false (.t 24))),(zs 6 (.mv true (.t 25))),(zs 7 (.mv true zT))]) .ret)
def y40r3 (c:Nat→FuncId):LCode:=(.seq (.seq (.sq [(zv 18 9),(zs 19 (.un .not (.t 18))),(zv 20 19),(zf 21 20 (.shift 3 (.t 8))),(zf 22 20 (.load1 false (.t 21))),(zs 23 (.pick (.t 20) zT (.t 22)))]) (y40r1 c)) (y40r2 c))
def y40r4 (c:Nat→FuncId):LCode:=(.seq (.tree (.rd (zv 11 0) 0 true (.rd (zs 12 (.loadA 16 (.t 4))) 1 true (.rd (zs 14 (.loadA 2 (.t 5))) 3 true (.mv (zs 13 (.call (.f (c 0)) [(.t 11),(.t 12)])) [0,1] (.mv (zs 15 (.call (.f (c 1)) [(.t 13),(.t 14)])) [0,1,2,3] (.rd (zv 10 15) 5 true (.rd (zs 16 (.ext (.t 10) 0)) 6 true (.rd (zs 17 (.ext (.t 10) 1)) 7 true (.mv (zs 8 (.alloc false [(.s (.int .i64 0)),(.s (.int .u8 0)),(.s (.str [])),(.s (.bool false))])) [] (.mv (zn (.store 4 (.t 8) (.t 16))) [0,1,2,3,4,5,6,8] (.mv (zs 9 (.mv true (.t 17))) [0,1,2,3,4,5,6,7,8,9] .done .stop) .stop) .stop)))) (.mv (zs 8 (.alloc false [(.s (.int .i64 0)),(.s (.int .u8 0)),(.s (.str [])),(.s (.bool false))])) [] (.mv (zs 15 (.call (.f (c 1)) [(.t 13),(.t 14)])) [0,1,2,3] (.rd (zv 10 15) 5 false (.rd (zs 16 (.ext (.t 10) 0)) 6 false (.rd (zs 17 (.ext (.t 10) 1)) 7 true (.mv (zn (.store 4 (.t 8) (.t 16))) [0,1,2,3,4,5,6,8] (.mv (zs 9 (.mv true (.t 17))) [0,1,2,3,4,5,6,7,8,9] .done .stop) .stop)))) .stop) .stop)) (.mv (zs 8 (.alloc false [(.s (.int .i64 0)),(.s (.int .u8 0)),(.s (.str [])),(.s (.bool false))])) [] (.mv (zs 13 (.call (.f (c 0)) [(.t 11),(.t 12)])) [0,1] (.mv (zs 15 (.call (.f (c 1)) [(.t 13),(.t 14)])) [0,1,2,3] (.rd (zv 10 15) 5 false (.rd (zs 16 (.ext (.t 10) 0)) 6 false (.rd (zs 17 (.ext (.t 10) 1)) 7 true (.mv (zn (.store 4 (.t 8) (.t 16))) [0,1,2,3,4,5,6,8] (.mv (zs 9 (.mv true (.t 17))) [0,1,2,3,4,5,6,7,8,9] .done .stop) .stop)))) .stop) .stop) .stop)))))) (y40r3 c))
def Uzb (c:Nat→FuncId):=PLift.up (zc (zc (@unfC _ _ (y40r1.eq_1 c)) (@unfC _ _ (y40r2.eq_1 c))) (zc (@unfC _ _ (y40r3.eq_1 c)) (@unfC _ _ (y40r4.eq_1 c))))
def Cz9 (c:Nat→FuncId):LFn:=⟨26,[.t 6,.t 7],(.seq (.sq [(zs 4 (.box false false (.t 1))),(zs 5 (.box false false (.t 2))),(zs 6 (.mv true (.c (.str [])))),(zs 7 (.mv true zF))]) (y40r4 c))⟩
def y40u1:LCode:=(.seq (.sq [(zv 10 0),(zs 11 (.loadA 16 (.t 3))),(zs 12 (.call (.t 10) [(.t 11)])),(zs 13 (.un .not (.t 12)))]) (.cond (.t 13) .ret .skip))
def y40u2:LCode:=(.block 1 (.seq (.sq [(zs 8 (.ent (.t 5))),(zs 9 (.ext (.t 8) 0)),(zs 3 (.alloc false zk)),(zn (.store 16 (.t 3) (.t 9)))]) y40u1))
def y40u3:LCode:=(.seq (.sq [(zs 6 (.nxt (.t 5))),(zs 7 (.ext (.t 6) 0))]) (.seq (.cond (.t 7) .skip (.exit 0)) y40u2))
def y40u4:LCode:=(.block 0 (.loop (zm false [0,1,4,1,8]) y40u3))
def Uzh:=PLift.up (zc (zc (@unfC _ _ (y40u1.eq_1)) (@unfC _ _ (y40u2.eq_1))) (zc (@unfC _ _ (y40u3.eq_1)) (@unfC _ _ (y40u4.eq_1))))
def Cze:LFn:=⟨14,[],(.seq (.sq [(zs 4 (.load1 false (.t 1))),(zs 5 (.rng (.t 4)))]) y40u4)⟩
def Cz1k (c:Nat→FuncId):LFn:=⟨4,[.t 2],(.seq (.sq [(zs 1 (.box false true (.t 0))),(zs 2 (.mv true (.c .nilF)))]) (.seq (.sq [(zs 3 (.mkfn (c 0) [] [(.t 1)])),(zs 2 (.mv true (.t 3)))]) .ret))⟩
def y40v1 (c:Nat→FuncId) (as1 bd1:Code):LCode:=(.seq (.seq (.sq [(zv 6 1)]) (.block 0 (.rfun (.t 6) (c 0) #[7] as1 bd1))) (.seq (.sq [(zs 12 (.load1 true (.t 2))),(zs 4 (.mv true (.t 12)))]) .ret))
def Uz12 (c:Nat→FuncId) (as1 bd1:Code):=PLift.up (@unfC _ _ (y40v1.eq_1 c as1 bd1))
def Czs (c:Nat→FuncId) (as1 bd1:Code):LFn:=⟨13,[.t 4],(.seq (.sq [(zs 2 (.box true true (.t 0))),(zs 4 (.mv true (.c .nilS)))]) (y40v1 c as1 bd1))⟩
def Czk:LFn:=⟨0,[],(.sq [(zs 5 (.alloc false zk)),(zn (.store 16 (.t 5) (.t 7)))])⟩
def Czl:LFn:=⟨0,[],(.block 1 (.sq [(zs 8 (.load1 true (.t 2))),(zs 9 (.loadA 16 (.t 5))),(zs 10 (.bsl ⟨16,true,16,(.agg zk)⟩ 1 [(0,(.t 9))])),(zs 11 (.app ⟨16,true,16,(.agg zk)⟩ false (.t 8) (.t 10))),(zn (.stu (.t 2) (.t 11)))]))⟩
def y40w1 (c:Nat→FuncId):LCode:=(.seq (.sq [(zv 3 0),(zs 4 (.call (.f (c 0)) [(.c .nilS),(.t 3)])),(zs 2 (.mv true (.t 4)))]) .ret)
def Uz1r (c:Nat→FuncId):=PLift.up (@unfC _ _ (y40w1.eq_1 c))
def Czx (c:Nat→FuncId):LFn:=⟨5,[.t 2],(.seq (.sq [(zs 2 (.mv true (.c .nilS)))]) (y40w1 c))⟩
def y40x1 (c:Nat→FuncId):LCode:=(.seq (.sq [(zs 8 (.thaw 5)),(zv 9 1),(zs 10 (.call (.f (c 1)) [(.t 8),(.t 9)]))]) (.seq (.sq [(zs 11 (.frz ⟨16,true,16,(.agg zk)⟩ (.t 5))),(zs 4 (.mv true (.t 11)))]) .ret))
def y40x2 (c:Nat→FuncId):LCode:=(.seq (.sq [(zv 6 0),(zs 7 (.call (.f (c 0)) [(.t 6)])),(zs 5 (.mv true (.t 7)))]) (y40x1 c))
def Uzf (c:Nat→FuncId):=PLift.up (zc (@unfC _ _ (y40x1.eq_1 c)) (@unfC _ _ (y40x2.eq_1 c)))
def Cza (c:Nat→FuncId):LFn:=⟨12,[.t 4],(.seq (.sq [(zs 4 (.mv true (.c .nilS)))]) (y40x2 c))⟩
def y40y1 (c:Nat→FuncId):LCode:=(.seq (.sq [(zv 3 0),(zs 4 (.nilc (.t 3))),(zs 5 (.shift 0 (.t 4))),(zs 6 (.load1 false (.t 5))),(zs 7 (.call (.f (c 0)) [(.t 6)])),(zs 8 (.call (.f (c 1)) [(.t 7),(.f (c 2))])),(zs 2 (.mv true (.t 8)))]) .ret)
def Uz1f (c:Nat→FuncId):=PLift.up (@unfC _ _ (y40y1.eq_1 c))
def Czv (c:Nat→FuncId):LFn:=⟨9,[.t 2],(.seq (.sq [(zs 2 (.mv true (.c .nilS)))]) (y40y1 c))⟩
def y40z1 (c:Nat→FuncId):LCode:=(.seq (.sq [(zs 7 (.loadA 16 (.t 3))),(zs 8 (.loadA 16 (.t 4))),(zs 9 (.call (.f (c 0)) [(.t 7),(.t 8)])),(zs 10 (.bin .geq .sc (.t 9) (zi 0))),(zv 11 10),(zt 12 11 (.loadA 16 (.t 5))),(zt 13 11 (.build zk [])),(zt 14 11 (.bin .eql (.leaf lk) (.t 12) (.t 13))),(zt 15 11 (.mv false (.t 14))),(zf 16 15 (.loadA 16 (.t 3))),(zf 17 15 (.loadA 16 (.t 5))),(zf 18 15 (.call (.f (c 0)) [(.t 16),(.t 17)])),(zf 19 15 (.bin .lss .sc (.t 18) (zi 0))),(zt 20 11 (.pick (.t 15) zT (.t 19))),(zs 21 (.pick (.t 11) (.t 20) zF)),(zs 6 (.mv true (.t 21)))]) .ret)
def Uz1o (c:Nat→FuncId):=PLift.up (@unfC _ _ (y40z1.eq_1 c))
def Cz13 (c:Nat→FuncId):LFn:=⟨22,[.t 6],(.seq (.sq [(zs 3 (.box false false (.t 0))),(zs 4 (.box false false (.t 1))),(zs 5 (.box false false (.t 2))),(zs 6 (.mv true zF))]) (y40z1 c))⟩
def y40aa1 (c:Nat→FuncId):LCode:=(.sq [(zs 40 (.mv true (.t 11))),(zs 41 (.loadA 16 (.t 13))),(zv 42 14),(zs 43 (.build (zk ++ [(.s (.str []))]) [(0,16,(.t 41)),(16,1,(.t 42))])),(zs 44 (.bsl ⟨17,true,32,(.agg (zk ++ [(.s (.str []))]))⟩ 1 [(0,(.t 43))])),(zs 45 (.app ⟨17,true,32,(.agg (zk ++ [(.s (.str []))]))⟩ false (.t 40) (.t 44))),(zs 11 (.mv true (.t 45)))])
def y40aa2 (c:Nat→FuncId):LCode:=(.seq (.sq [(zv 33 0),(zs 34 (.loadA 16 (.t 13))),(zs 35 (.loadA 2 (.t 8))),(zs 36 (.call (.f (c 2)) [(.t 33),(.t 34),(.t 35)])),(zv 32 36),(zs 37 (.ext (.t 32) 0)),(zs 38 (.ext (.t 32) 1)),(zs 14 (.mv true (.t 37))),(zs 15 (.mv true (.t 38)))]) (.seq (.sq [(zv 39 15)]) (.cond (.t 39) (y40aa1 c) .skip)))
def y40aa3 (c:Nat→FuncId):LCode:=(.seq (.seq (.sq [(zs 27 (.loadA 16 (.t 13))),(zs 28 (.loadA 16 (.t 6))),(zs 29 (.loadA 16 (.t 7))),(zs 30 (.call (.f (c 1)) [(.t 27),(.t 28),(.t 29)])),(zs 31 (.un .not (.t 30)))]) (.cond (.t 31) (.exit 1) .skip)) (y40aa2 c))
def y40aa4 (c:Nat→FuncId):LCode:=(.seq (.seq (.sq [(zv 23 11),(zs 24 (.len .sl (.t 23))),(zv 25 4),(zs 26 (.bin .geq .sc (.t 24) (.t 25)))]) (.cond (.t 26) (.exit 0) .skip)) (y40aa3 c))
def y40aa5 (c:Nat→FuncId):LCode:=(.seq (.block 1 (.seq (.sq [(zs 21 (.ixa (.sl 16) (.t 17) (.t 19))),(zs 22 (.loadA 16 (.t 21))),(zs 13 (.alloc false zk)),(zn (.store 16 (.t 13) (.t 22)))]) (y40aa4 c))) (.sq [(zs 46 (.bin .add .sc (.t 19) (zi 1))),(zv 19 46)]))
def y40aa6 (c:Nat→FuncId):LCode:=(.seq (.sq [(zs 20 (.bin .lss .sc (.t 19) (.t 18)))]) (.seq (.cond (.t 20) .skip (.exit 0)) (y40aa5 c)))
def y40aa7 (c:Nat→FuncId):LCode:=(.block 0 (.loop (zm false [0,1,3,1,1,3,2,1,5,3,28]) (y40aa6 c)))
def y40aa8 (c:Nat→FuncId):LCode:=(.seq (.seq (.sq [(zv 16 0),(zs 17 (.call (.f (c 0)) [(.t 16)])),(zs 18 (.len .sl (.t 17))),(zs 19 (.mv false (zi 0)))]) (y40aa7 c)) (.seq (.sq [(zs 47 (.mv true (.t 11))),(zs 10 (.mv true (.t 47)))]) .ret))
def Uz4 (c:Nat→FuncId):=PLift.up (zc (zc (zc (@unfC _ _ (y40aa1.eq_1 c)) (@unfC _ _ (y40aa2.eq_1 c))) (zc (@unfC _ _ (y40aa3.eq_1 c)) (@unfC _ _ (y40aa4.eq_1 c)))) (zc (zc (@unfC _ _ (y40aa5.eq_1 c)) (@unfC _ _ (y40aa6.eq_1 c))) (zc (@unfC _ _ (y40aa7.eq_1 c)) (@unfC _ _ (y40aa8.eq_1 c)))))
def Cz14 (c:Nat→FuncId):LFn:=⟨48,[.t 10],(.seq (.sq [(zs 6 (.box false false (.t 1))),(zs 7 (.box false false (.t 2))),(zs 8 (.box false false (.t 3))),(zs 10 (.mv true (.c .nilS)))]) (.seq (.sq [(zs 11 (.mv true (.c .nilS)))]) (y40aa8 c)))⟩
end Go.AM
namespace Go.AM
open Go
open AV renaming undef → uu
set_option maxRecDepth 20000
def CmpVS (C:CallW) (g:FuncId):Prop:=∀(v:Ver) (s:Stp) S H (K:AV→St→Prop),K (.s (.int .i64 (cmpS v.st s))) ⟨S,H⟩→C (.fn g) [.agg (verc v),.agg (stc s)] ⟨S,H⟩ K
theorem ixl_v {l:List Ver} {i:Nat} {k:IntKind} (h:i < l.length):indexAddrL (.sl 4) (.list .sh 4 (l.map verA)) (.s (.int k (i:Int)))=some (.rop (verc l[i])):=ixl_map h (by omega)
theorem place1_spec {C:CallW} (P:Program) {c:Nat→FuncId} (h0:CmpSS C (c 0)):∀(v:Ver) (s:Stp) S H (K:AV→St→Prop),K (.s (.int .i64 (cmpS v.st s))) ⟨S,H⟩→runL C P (Czu c) [.agg (verc v),.agg (stc s)] ⟨S,H⟩ K:=by
  intro v s S H K hK
  simp only [verc,stc,Czu,A_,simprocAttr,ne_eq,(Uz1n _).1]
  refine h0 _ _ _ _ _ ?_
  simp only [verc,stc,Czu,A_,simprocAttr,ne_eq,(Uz1n _).1]
  exact hK
def BsS (C:CallW) (f:FuncId):Prop:=∀(vs:List Ver) (s:Stp) (g:FuncId) S H (K:AV→St→Prop),SorV vs→vs.length≤1000→CmpVS C g→K (.tup [.s (.int .i64 (idxV vs s:Nat)),.s (.bool (hasV vs s))]) ⟨S,H⟩→C (.fn f) [lstV vs,.agg (stc s),.fn (.func g) [] []] ⟨S,H⟩ K
theorem half_fdiv {n:Nat}:(n:Int).fdiv (2 ^ min 1 IntKind.u64.bits)=((n / 2:Nat):Int):=by
  have h:(n:Int).fdiv 2=((n / 2:Nat):Int):=by rw [Int.fdiv_eq_ediv_of_nonneg _ (by omega)]; omega
  exact h
theorem rdv {v:Ver} {σ:St}:readA σ (.rop (verc v)) 4=some (.agg (verc v)):=rfl
theorem wu64' {n:Nat} (h:n < 18446744073709551616):IntKind.u64.wrap (n:Int)=(n:Int):=by simp [IntKind.wrap,IntKind.bits,IntKind.signed]; omega
set_option maxHeartbeats 8000000 in
theorem bs_spec {C:CallW} (hC:LeC C C) (P:Program):∀(vs:List Ver) (s:Stp) (g:FuncId) S H (K:AV→St→Prop),SorV vs→vs.length≤1000→CmpVS C g→K (.tup [.s (.int .i64 (idxV vs s:Nat)),.s (.bool (hasV vs s))]) ⟨S,H⟩→runL C P Cz2 [lstV vs,.agg (stc s),.fn (.func g) [] []] ⟨S,H⟩ K:=by
  intro vs s g S H K hs hl hg hK
  have hile:=idx_le vs s
  simp only [lstV,stc,Cz2,A_,simprocAttr,ne_eq,Uz7.1,List.length_map]
  refine loop_rule hC (α:=Nat×Nat) (fun x=>x.2 - x.1) (fun x=>[.list .sh 4 (vs.map verA),.undef,.fn (.func g) [] [],.undef,.ptr (.stk S.length) 0,uu,uu,uu,.s (.int .i64 (vs.length:Nat)),.s (.int .i64 (x.1:Nat)),.s (.int .i64 (x.2:Nat)),uu,uu,uu,uu,uu,uu,uu,uu,uu,uu,uu,uu,uu,uu,uu,uu,uu,uu,uu,uu,uu,uu,uu,uu,uu,uu,uu,uu,uu,uu,uu,uu,uu,uu,uu,uu,uu,uu]) (fun _=>S ++ [[.s (.int .i64 s.t),u8 s.n]]) (fun _=>H) (fun x=>x.1≤idxV vs s∧idxV vs s≤x.2∧x.2≤vs.length) (0,vs.length) ⟨Nat.zero_le _,hile,Nat.le_refl _⟩ (by rfl) (by rw [app_take_add]; rfl) rfl (fun a _=>by simp [AV.under,AV.under.go]) ?_
  rintro ⟨i,j⟩ ⟨h1,h2,h3⟩ ih
  dsimp only at h1 h2 h3 ih ⊢
  by_cases hij:i < j
  · have hlt:((i:Int) < (j:Int)):=by omega
    have hw:IntKind.i64.wrap ((i:Int) + (j:Int))=((i + j:Nat):Int):=by rw [wrap_i64 (by omega) (by omega)]; omega
    have hu:IntKind.u64.wrap ((i + j:Nat):Int)=((i + j:Nat):Int):=wu64' (by omega)
    have hv:IntKind.i64.wrap (((i + j) / 2:Nat):Int)=(((i + j) / 2:Nat):Int):=wrap_i64 (by omega) (by omega)
    have hh:(i + j) / 2 < vs.length:=by omega
    have hix:=fun k=>ixl_v (k:=k) hh
    have hw2:=wrap_succ (i:=(i + j) / 2) (by omega)
    simp only [Cz2,A_,simprocAttr,ne_eq,Uz7.1,CHK_,Nat.reduceBEq,hlt,convL,hw,hu,hv,half_fdiv,hix,rdv]
    refine hg vs[(i + j) / 2] s _ _ _ ?_
    have hk:=idx_lt hs (s:=s) hh
    by_cases hc:cmpS vs[(i + j) / 2].st s < 0
    · have:=hk.2 hc
      simp only [Cz2,A_,simprocAttr,ne_eq,Uz7.1,CHK_,Nat.reduceBEq,hlt,convL,hw,hu,hv,half_fdiv,hix,rdv,hc,hw2]
      exact ih ((i + j) / 2 + 1,j) _ _ _ (by dsimp only; omega) ⟨by dsimp only; omega,h2,h3⟩ (by rfl) (by rw [app_take_add]; rfl) rfl
    · have:¬((i + j) / 2 < idxV vs s):=fun q=>hc (hk.1 q)
      simp only [Cz2,A_,simprocAttr,ne_eq,Uz7.1,CHK_,Nat.reduceBEq,hlt,convL,hw,hu,hv,half_fdiv,hix,rdv,hc,hw2]
      exact ih (i,(i + j) / 2) _ _ _ (by dsimp only; omega) ⟨h1,by dsimp only; omega,by dsimp only; omega⟩ (by rfl) (by rw [app_take_add]; rfl) rfl
  · have hlt:¬((i:Int) < (j:Int)):=by omega
    have he:i=idxV vs s:=by omega
    subst he
    by_cases hn:idxV vs s < vs.length
    · have hnl:((idxV vs s:Nat):Int) < (vs.length:Int):=by omega
      have hix:=fun k=>ixl_v (k:=k) hn
      simp only [Cz2,A_,simprocAttr,ne_eq,Uz7.1,CHK_,Nat.reduceBEq,hlt,hnl,hix,rdv]
      refine hg vs[idxV vs s] s _ _ _ ?_
      have hb:decide (cmpS vs[idxV vs s].st s=0)=hasV vs s:=by
        cases hq:hasV vs s with
        | true =>
          obtain ⟨_,e⟩:=(has_iff hs s).1 hq
          exact decide_eq_true e
        | false =>
          refine decide_eq_false fun e => ?_
          have:=(has_iff hs s).2 ⟨hn,e⟩
          rw [hq] at this; cases this
      simp only [Cz2,A_,simprocAttr,ne_eq,Uz7.1,CHK_,Nat.reduceBEq,hlt,hnl,hix,rdv,hb]
      exact hK
    · have hnl:¬((idxV vs s:Nat):Int) < (vs.length:Int):=by omega
      have hb:hasV vs s=false:=by
        cases hq:hasV vs s with
        | true =>
          obtain ⟨h5,_⟩:=(has_iff hs s).1 hq
          exact absurd h5 hn
        | false=>rfl
      rw [hb] at hK
      simp only [Cz2,A_,simprocAttr,ne_eq,Uz7.1,CHK_,Nat.reduceBEq,hlt,hnl]
      exact hK
theorem place_spec {C:CallW} (P:Program) {c:Nat→FuncId} (h0:BsS C (c 0)) (h1:CmpVS C (c 1)):∀(vs:List Ver) (s:Stp) S H (K:AV→St→Prop),SorV vs→vs.length≤1000→K (.tup [.s (.int .i64 (idxV vs s:Nat)),.s (.bool (hasV vs s))]) ⟨S,H⟩→runL C P (Czz c) [.rop [lstV vs],.agg (stc s)] ⟨S,H⟩ K:=by
  intro vs s S H K hs hl hK
  have h0':=h0 vs s (c 1)
  simp only [lstV,stc] at h0'
  simp only [lstV,stc,Czz,A_,simprocAttr,ne_eq,(Uz1t _).1,CHK_,Nat.reduceBEq]
  refine h0' _ _ _ hs hl h1 ?_
  simp only [lstV,stc,Czz,A_,simprocAttr,ne_eq,(Uz1t _).1,CHK_,Nat.reduceBEq]
  exact hK
theorem has_spec {C:CallW} (P:Program) {c:Nat→FuncId} (h0:RPlaceS C (c 0)):∀(vs:List Ver) (s:Stp) S H (K:AV→St→Prop),SorV vs→vs.length≤1000→K (.s (.bool (hasV vs s))) ⟨S,H⟩→runL C P (Cz16 c) [.rop [lstV vs],.agg (stc s)] ⟨S,H⟩ K:=by
  intro vs s S H K hs hl hK
  simp only [stc,Cz16,A_,simprocAttr,ne_eq,(Uz24 _).1,CHK_,Nat.reduceBEq]
  refine h0 vs s _ _ _ hs hl ?_
  simp only [stc,Cz16,A_,simprocAttr,ne_eq,(Uz24 _).1,CHK_,Nat.reduceBEq]
  exact hK
theorem until_spec {C:CallW} (P:Program) {c:Nat→FuncId} (h0:RPlaceS C (c 0)):∀(vs:List Ver) (s:Stp) S H (K:AV→St→Prop),SorV vs→vs.length≤1000→K (.s (.int .i64 (untV vs s:Nat))) ⟨S,H⟩→runL C P (Czr c) [.rop [lstV vs],.agg (stc s)] ⟨S,H⟩ K:=by
  intro vs s S H K hs hl hK
  have hu:=unt_has hs s
  have hi:=idx_le vs s
  have hw:=wrap_succ (i:=idxV vs s) (by omega)
  simp only [stc,Czr,A_,simprocAttr,ne_eq,(Uz1c _).1,CHK_,Nat.reduceBEq]
  refine h0 vs s _ _ _ hs hl ?_
  cases hh:hasV vs s with
  | true =>
    rw [hh,if_pos rfl] at hu
    rw [hu] at hK
    simp only [stc,Czr,A_,simprocAttr,ne_eq,(Uz1c _).1,CHK_,Nat.reduceBEq,hw]
    exact hK
  | false =>
    rw [hh,if_neg (by simp)] at hu
    rw [hu] at hK
    simp only [stc,Czr,A_,simprocAttr,ne_eq,(Uz1c _).1,CHK_,Nat.reduceBEq,hw]
    exact hK
theorem at_get {vs:List Ver} {s:Stp} (h:0 < untV vs s):∃hi:untV vs s - 1 < vs.length,atV vs s=some vs[untV vs s - 1]:=by
  have:=unt_le vs s
  refine ⟨by omega,?_⟩
  unfold atV
  rw [List.getLast?_eq_getElem?,List.length_take,Nat.min_eq_left this,List.getElem?_take,if_pos (by omega),List.getElem?_eq_getElem (by omega)]
theorem at_none {vs:List Ver} {s:Stp} (h:untV vs s=0):atV vs s=none:=by unfold atV; rw [h]; rfl
theorem at_spec {C:CallW} (P:Program) {c:Nat→FuncId} (h0:RUntS C (c 0)):∀(vs:List Ver) (s:Stp) S H (K:AV→St→Prop),SorV vs→vs.length≤1000→K (.tup [.agg (verc ((atV vs s).getD ver0)),.s (.bool (atV vs s).isSome)]) ⟨S,H⟩→runL C P (Cz10 c) [.rop [lstV vs],.agg (stc s)] ⟨S,H⟩ K:=by
  intro vs s S H K hs hl hK
  have hul:=unt_le vs s
  simp only [stc,Cz10,A_,simprocAttr,ne_eq,(Uz1p _).1,CHK_,Nat.reduceBEq]
  refine h0 vs s _ _ _ hs hl ?_
  by_cases h:untV vs s=0
  · have e1:(((untV vs s:Nat):Int)=0)=True:=eq_true (by omega)
    rw [at_none h] at hK
    simp only [stc,Cz10,A_,simprocAttr,ne_eq,(Uz1p _).1,CHK_,Nat.reduceBEq,e1]
    exact hK
  · have e1:(((untV vs s:Nat):Int)=0)=False:=eq_false (by omega)
    obtain ⟨hi,e2⟩:=at_get (vs:=vs) (s:=s) (by omega)
    rw [e2] at hK
    have hw:IntKind.i64.wrap (((untV vs s:Nat):Int) - 1)=((untV vs s - 1:Nat):Int):=by rw [wrap_i64 (by omega) (by omega)]; omega
    have hix:=fun k=>ixl_v (k:=k) hi
    simp only [lstV,stc,Cz10,A_,simprocAttr,ne_eq,(Uz1p _).1,CHK_,Nat.reduceBEq,e1,hw,hix,rdv,verc]
    exact hK
theorem len_spec {C:CallW} (P:Program):∀(vs:List Ver) S H (K:AV→St→Prop),K (.s (.int .i64 (vs.length:Nat))) ⟨S,H⟩→runL C P Cz1j [.rop [lstV vs]] ⟨S,H⟩ K:=by
  intro vs S H K hK
  simp only [lstV,Cz1j,A_,simprocAttr,ne_eq,Uz39.1,CHK_,Nat.reduceBEq,List.length_map]
  exact hK
end Go.AM
namespace Go.AM
open Go
set_option maxRecDepth 20000
def InsVS (C:CallW) (f:FuncId):Prop:=∀(vs:List Ver) (v:Ver) (i:Nat) S H (K:AV→St→Prop),i≤vs.length→vs.length≤1000→K (chK (vs.take i ++ v :: vs.drop i)) ⟨S,H⟩→C (.fn f) [chK vs,.s (.int .i64 (i:Nat)),.list .full 4 [.agg (verc v)]] ⟨S,H⟩ K
theorem chK_ne {l:List Ver} (h:l≠[]):chK l = .list .uniq 4 (l.map verA):=by
  cases l with
  | nil=>exact absurd rfl h
  | cons x l=>rfl
theorem kit_InsV {P:Program} {C:CallW} (h:KitW P C) {ρ : Shelf.Ren} {zr:Value} (L:Proofs.InsL P ρ 4 zr 40):InsVS C (ρ.f 22):=by
  intro vs v i S H K hi hl hK
  rw [chK_ne (by simp)] at hK
  cases vs with
  | nil =>
    have:i=0:=by simpa using hi
    subst this
    exact h.insN ρ 4 zr 40 L (by omega) [.agg (verc v)] .full _ K (by simp) (by simp) (.inr rfl) hK
  | cons x vs =>
    simp only [List.length_cons] at hi hl
    refine h.ins ρ 4 zr 40 L (by omega) ((x :: vs).map verA) [.agg (verc v)] i .full _ K (by simpa using hi) (by simp) (by simp; omega) (.inr rfl) ?_
    rw [List.map_append,List.map_cons,List.map_take,List.map_drop] at hK
    rw [List.append_assoc]
    exact hK
theorem ld_ch {S:List (List AV)} {H:List HObj} {b:Nat} {vs:List Ver} (hb:H[b]? = some (.cells [chK vs])):load1L true (.ptr (.heap b) 0) ⟨S,H⟩=some (chK vs,⟨S,H.set b (.cells [(chK vs).left])⟩):=by
  have hbo:boxOf ⟨S,H⟩ (.heap b)=some [chK vs]:=by simp [boxOf,hb]
  simp [load1L,hbo,splice,setBox]
theorem st_ch {S:List (List AV)} {H:List HObj} {b:Nat} {a v:AV} (hb:b < H.length) (hv:v.fit=true) (hc:v.isCell=true∨v.kept=true) (hu:AV.under 0 v=true):storeUL (.ptr (.heap b) 0) v ⟨S,H.set b (.cells [a])⟩=some ⟨S,H.set b (.cells [v])⟩:=by
  have hbo:boxOf ⟨S,H.set b (.cells [a])⟩ (.heap b)=some [a]:=by simp [boxOf,hb]
  simp [storeUL,hv,hc,hbo,writeCells,mayHold,AV.under.go,hu,splice,setBox]
def lkV (vs:List Ver):AV:=(chK vs).look
theorem ld_lk {S:List (List AV)} {H:List HObj} {b:Nat} {vs:List Ver} (hb:H[b]? = some (.cells [chK vs])):load1L false (.ptr (.heap b) 0) ⟨S,H⟩=some (lkV vs,⟨S,H⟩):=by
  have hbo:boxOf ⟨S,H⟩ (.heap b)=some [chK vs]:=by simp [boxOf,hb]
  simp [load1L,hbo,lkV]
theorem len_lk {vs:List Ver} {σ:St}:lenL .sl (lkV vs) σ=some vs.length:=by cases vs <;> simp [lkV,chK,AV.look,lenL]
theorem lk_lk {vs:List Ver}:(lkV vs).look=lkV vs:=by cases vs <;> rfl
theorem sh_lk {vs:List Ver} {t:Nat} {fr:Fr}:sharedL t fr (lkV vs)=(lkV vs,fr):=by cases vs <;> rfl
theorem chK_fit {vs:List Ver}:(chK vs).fit=true:=by cases vs <;> rfl
theorem chK_kept {vs:List Ver}:(chK vs).isCell=true∨(chK vs).kept=true:=by cases vs <;> simp [chK,AV.isCell,AV.kept]
theorem chK_low {vs:List Ver}:AV.under 0 (chK vs)=true:=by cases vs <;> rfl
theorem chK_ins {vs:List Ver} {v:Ver}:chK (insV vs v) = .list .uniq 4 ((insV vs v).map verA):=chK_ne (by unfold insV; simp)
set_option maxHeartbeats 4000000 in
theorem put_spec {C:CallW} (P:Program) {c:Nat→FuncId} (h0:∀s:Stp,FnS C (c 0) [.agg (stc s)] (.bool (goodS s))) (h1:PPlaceS C (c 1)) (h2:InsVS C (c 2)):∀(b:Nat) (vs:List Ver) (v:Ver) S H (K:AV→St→Prop),H[b]? = some (.cells [chK vs])→SorV vs→vs.length≤50→K (.s (.int .i64 (putV vs v).1)) ⟨S,H.set b (.cells [chK (putV vs v).2])⟩→runL C P (Cz5 c) [.ptr (.heap b) 0,.agg (verc v)] ⟨S,H⟩ K:=by
  intro b vs v S H K hb hs hl hK
  have hid:H.set b (.cells [chK vs])=H:=hsetid hb
  have x1:=fun S=>ld_lk (S:=S) hb
  have x2:=fun S=>ld_ch (S:=S) hb
  have hbl:=hlt hb
  have bad:okV v=false→K (.s (.int .i64 1)) ⟨S,H⟩:=fun h=>by
    have:putV vs v=(1,vs):=by unfold putV; rw [if_pos h]
    rw [this] at hK
    rw [hid] at hK
    exact hK
  simp only [verc,Cz5,A_,simprocAttr,ne_eq,(Uz8 _).1]
  refine h0 v.st _ _ _ ?_
  cases hg:goodS v.st with
  | false =>
    have:=bad (by unfold okV; rw [hg]; rfl)
    simp only [verc,Cz5,A_,simprocAttr,ne_eq,(Uz8 _).1]
    exact this
  | true =>
  by_cases hvl:200 < v.val.length
  · have e1:((200:Int) < (v.val.length:Int))=True:=eq_true (by omega)
    have:=bad (by unfold okV; rw [decide_eq_false (by omega)]; simp)
    simp only [verc,Cz5,A_,simprocAttr,ne_eq,(Uz8 _).1,e1]
    exact this
  have e1:((200:Int) < (v.val.length:Int))=False:=eq_false (by omega)
  by_cases hgv:v.gone=true∧v.val≠[]
  · have e2:(v.val=[])=False:=eq_false hgv.2
    have:=bad (by unfold okV; rw [hgv.1]; cases hh:v.val with
      | nil=>exact absurd hh hgv.2
      | cons a l=>simp)
    simp only [verc,Cz5,A_,simprocAttr,ne_eq,(Uz8 _).1,e1,hgv.1,e2]
    exact this
  have hok:okV v=true:=by
    unfold okV
    rw [hg,decide_eq_true (by omega)]
    cases h1:v.gone with
    | false=>rfl
    | true =>
      cases h2:v.val with
      | nil=>rfl
      | cons a l=>exact absurd ⟨h1,by simp [h2]⟩ hgv
  have hp:putV vs v=if hasV vs v.st=true then (5,vs) else if 50≤vs.length then (6,vs) else (0,insV vs v):=by unfold putV; rw [if_neg (by rw [hok]; simp)]
  have fin3:∀a:Stp×Nat,a.2=0→True:=fun _ _=>trivial
  have hgv2:v.gone=false∨(v.gone=true∧v.val=[]):=by
    cases h1:v.gone with
    | false=>exact .inl rfl
    | true=>exact .inr ⟨rfl,Classical.byContradiction fun h=>hgv ⟨h1,h⟩⟩
  have h1':=fun S H K=>h1 b (chK vs) vs v.st S H K
  simp only [stc] at h1'
  have x3:∀{S:List (List AV)} {a:AV},storeUL (.ptr (.heap b) 0) (chK (insV vs v)) ⟨S,H.set b (.cells [a])⟩=some ⟨S,H.set b (.cells [chK (insV vs v)])⟩:=fun {S a}=>st_ch hbl chK_fit chK_kept chK_low
  have h2':=fun S H K=>h2 vs v (idxV vs v.st) S H K (idx_le _ _) (by omega)
  have hi:vs.take (idxV vs v.st) ++ v :: vs.drop (idxV vs v.st)=insV vs v:=rfl
  rw [hi] at h2'
  simp only [verc] at h2'
  rcases hgv2 with h6 | ⟨h6,h7⟩
  · simp only [verc,Cz5,A_,simprocAttr,ne_eq,(Uz8 _).1,e1,h6]
    refine h1' _ _ _ hb (.inl rfl) hs (by omega) ?_
    rw [h6] at h2'
    cases hh:hasV vs v.st with
    | true =>
      rw [hp,if_pos hh,hid] at hK
      simp only [Cz5,A_,simprocAttr,ne_eq,(Uz8 _).1]
      exact hK
    | false =>
    rw [hp,if_neg (by rw [hh]; simp)] at hK
    by_cases h5:50≤vs.length
    · have e5:((50:Int)≤(vs.length:Int))=True:=eq_true (by omega)
      rw [if_pos h5,hid] at hK
      simp only [Cz5,A_,simprocAttr,ne_eq,(Uz8 _).1,x1,len_lk,lk_lk,sh_lk,e5]
      exact hK
    have e5:((50:Int)≤(vs.length:Int))=False:=eq_false (by omega)
    rw [if_neg h5] at hK
    simp only [Cz5,A_,simprocAttr,ne_eq,(Uz8 _).1,CHK_,Nat.reduceBEq,x1,x2,len_lk,lk_lk,sh_lk,e5]
    refine h2' _ _ _ ?_
    rw [chK_ins] at x3 ⊢
    simp only [Cz5,A_,simprocAttr,ne_eq,(Uz8 _).1,CHK_,Nat.reduceBEq,x3]
    rw [←chK_ins]
    exact hK
  · simp only [verc,Cz5,A_,simprocAttr,ne_eq,(Uz8 _).1,e1,h6,h7]
    refine h1' _ _ _ hb (.inl rfl) hs (by omega) ?_
    rw [h6,h7] at h2'
    cases hh:hasV vs v.st with
    | true =>
      rw [hp,if_pos hh,hid] at hK
      simp only [Cz5,A_,simprocAttr,ne_eq,(Uz8 _).1]
      exact hK
    | false =>
    rw [hp,if_neg (by rw [hh]; simp)] at hK
    by_cases h5:50≤vs.length
    · have e5:((50:Int)≤(vs.length:Int))=True:=eq_true (by omega)
      rw [if_pos h5,hid] at hK
      simp only [Cz5,A_,simprocAttr,ne_eq,(Uz8 _).1,x1,len_lk,lk_lk,sh_lk,e5]
      exact hK
    have e5:((50:Int)≤(vs.length:Int))=False:=eq_false (by omega)
    rw [if_neg h5] at hK
    simp only [Cz5,A_,simprocAttr,ne_eq,(Uz8 _).1,CHK_,Nat.reduceBEq,x1,x2,len_lk,lk_lk,sh_lk,e5]
    refine h2' _ _ _ ?_
    rw [chK_ins] at x3 ⊢
    simp only [Cz5,A_,simprocAttr,ne_eq,(Uz8 _).1,CHK_,Nat.reduceBEq,x3]
    rw [←chK_ins]
    exact hK
end Go.AM
namespace Go.AM
open Go
set_option maxRecDepth 20000
def ChNewS (C:CallW) (f:FuncId):Prop:=∀S H (K:AV→St→Prop),K (.ptr (.heap H.length) 0) ⟨S,H ++ [.cells [.s .nilS]]⟩→C (.fn f) [] ⟨S,H⟩ K
theorem chain_New_spec {C:CallW} (P:Program):∀S H (K:AV→St→Prop),K (.ptr (.heap H.length) 0) ⟨S,H ++ [.cells [.s .nilS]]⟩→runL C P Cz2y [] ⟨S,H⟩ K:=by
  intro S H K hK
  simp only [Cz2y,A_,simprocAttr,ne_eq,Uz59.1]
  exact hK
end Go.AM
namespace Go.AM
open Go
set_option maxRecDepth 20000
end Go.AM
namespace Go.AM
open Go
set_option maxRecDepth 20000
end Go.AM
namespace Go.AM
open Go
set_option maxRecDepth 20000
end Go.AM
namespace Go.AM
open Go
set_option maxRecDepth 20000
def partW (pts:List Key) (l:List Wr) (j:Nat):List Wr:=l.filter fun w=>decide (ofK pts w.key=(j:Int))
def splitC (pts:List Key) (l:List Wr):List AV:=(List.range (pts.length + 1)).map fun j=>slO (partW pts l j)
end Go.AM
namespace Go.AM
open Go
set_option maxRecDepth 20000
end Go.AM
namespace Go.AM
open Go
set_option maxRecDepth 20000
end Go.AM
namespace Go.AM
open Go
set_option maxRecDepth 20000
end Go.AM
namespace Go.AM
open Go
set_option maxRecDepth 20000
end Go.AM
namespace Go.AM
open Go
set_option maxRecDepth 20000
end Go.AM
namespace Go.AM
open Go
set_option maxRecDepth 20000
def partsC (pts:List Key) (l:List Wr):List Nat:=(List.range (pts.length + 1)).filter fun j=>decide (partW pts l j≠[])
end Go.AM
namespace Go.AM
open Go
set_option maxRecDepth 20000
end Go.AM
namespace Go.AM
open Go
set_option maxRecDepth 20000
def long14 (l:List Wr):Bool:=decide (20 < l.length) || l.any fun w=>decide (250 < w.val.length)
end Go.AM
namespace Go.AM
open Go
set_option maxRecDepth 20000
structure okB (r:Rec):Prop where
  ws:r.writes.length≤20
  vs:∀w∈r.writes,w.val.length≤250
  ps:r.parts.length≤12
  lo : -9223372036854775808≤r.id
  hi:r.id≤9223372036854775807
theorem okB.ok {r:Rec} (h:okB r):okR r:=⟨by have:=h.ws; omega,by have:=h.ps; omega⟩
end Go.AM
namespace Go.AM
open Go
set_option maxRecDepth 20000
end Go.AM
namespace Go.AM
open Go
set_option maxRecDepth 20000
end Go.AM
namespace Go.AM
open Go
set_option maxRecDepth 20000
end Go.AM
namespace Go.AM
open Go
end Go.AM
namespace Go.AM
open Go
set_option maxRecDepth 20000
end Go.AM
namespace Go.AM
open Go
set_option maxRecDepth 20000
end Go.AM
namespace Go.AM
open Go
def Loc {α:Type} (f:Rd→α×Rd):Prop:=∀r q,(f r).2=some q→∃b,r=some b∧∀c,f (some (b ++ c))=((f r).1,some (q ++ c))
theorem Loc.dead {α:Type} {f:Rd→α×Rd} (h:Loc f):(f none).2=none:=by
  cases hq:(f none).2 with
  | none=>rfl
  | some q=>obtain ⟨b,hb,_⟩:=h none q hq; cases hb
theorem Loc.bind {α β:Type} {f:Rd→α×Rd} {g:α→Rd→β×Rd} (hf:Loc f) (hg:∀a,Loc (g a)):Loc fun r=>g (f r).1 (f r).2:=by
  intro r q h
  obtain ⟨b1,hb1,hc1⟩:=hg _ _ q h
  obtain ⟨b,hb,hc⟩:=hf r b1 hb1
  refine ⟨b,hb,fun c => ?_⟩
  dsimp only
  rw [hc c,hc1 c]
theorem Loc.map {α β:Type} {f:Rd→α×Rd} (hf:Loc f) (g:α→β):Loc fun r=>(g (f r).1,(f r).2):=by
  intro r q h
  obtain ⟨b,hb,hc⟩:=hf r q h
  exact ⟨b,hb,fun c=>by dsimp only; rw [hc c]⟩
end Go.AM
namespace Go.AM
open Go
end Go.AM
namespace Go.AM
open Go
set_option maxRecDepth 20000
end Go.AM
namespace Go.AM
open Go
set_option maxRecDepth 20000
structure inR (r:Rec):Prop where
  ok:okR r
  lo : -9223372036854775808≤r.id
  hi:r.id≤9223372036854775807
end Go.AM
namespace Go.AM
open Go
set_option maxRecDepth 20000
end Go.AM
namespace Go.AM
open Go
set_option maxRecDepth 20000
def y6o1:LCode:=(.sq [(zv 15 5),(zs 16 (.bin .add .sc (.t 15) (zi 1))),(zs 5 (.mv true (.t 16)))])
def y6o2:LCode:=(.seq (.block 1 (.seq (.tree (.rd (zv 17 0) 0 false (.rd (zv 18 5) 1 false (.rd (zs 19 (.ixa (.sl 17) (.t 17) (.t 18))) 2 false (.rd (zs 20 (.loadA 17 (.t 19))) 3 false (.rd (zv 21 1) 4 false (.rd (zv 22 5) 5 false (.rd (zs 23 (.ixa (.sl 17) (.t 21) (.t 22))) 6 false (.rd (zs 24 (.loadA 17 (.t 23))) 7 false (.rd (zs 25 (.bin .neq (.leaf (lk ++ [.str])) (.t 20) (.t 24))) 8 false .done)))))))))) (.cond (.t 25) (.seq (.sq [(zs 4 (.mv true zF))]) .ret) .skip))) y6o1)
def y6o3:LCode:=(.seq (.seq (.sq [(zv 11 5),(zv 12 0),(zs 13 (.len .sl (.t 12))),(zs 14 (.bin .lss .sc (.t 11) (.t 13)))]) (.cond (.t 14) .skip (.exit 0))) y6o2)
def y6o4:LCode:=(.block 0 (.loop (zm false [0,2,3,1,20]) y6o3))
def y6o5:LCode:=(.seq (.seq (.sq [(zs 5 (.mv true (zi 0)))]) y6o4) (.seq (.sq [(zs 4 (.mv true zT))]) .ret))
def y6o6:LCode:=(.seq (.seq (.sq [(zv 6 0),(zs 7 (.len .sl (.t 6))),(zv 8 1),(zs 9 (.len .sl (.t 8))),(zs 10 (.bin .neq .sc (.t 7) (.t 9)))]) (.cond (.t 10) (.seq (.sq [(zs 4 (.mv true zF))]) .ret) .skip)) y6o5)
def Uzj:=PLift.up (zc (zc (@unfC _ _ (y6o1.eq_1)) (zc (@unfC _ _ (y6o2.eq_1)) (@unfC _ _ (y6o3.eq_1)))) (zc (@unfC _ _ (y6o4.eq_1)) (zc (@unfC _ _ (y6o5.eq_1)) (@unfC _ _ (y6o6.eq_1)))))
def Czt:LFn:=⟨26,[.t 4],(.seq (.sq [(zs 4 (.mv true zF))]) y6o6)⟩
end Go.AM
namespace Go.AM
open Go
structure It where
  key:Key
  val:List UInt8
  deriving DecidableEq
def itc (x:It):List AV:=bs x.key.b ++ [.s (.str x.val)]
def itA (x:It):AV := .agg (itc x)
theorem itc_length (x:It):(itc x).length=17:=by simp [itc,kc_length]
theorem itA_under {n:Nat} {x:It}:AV.under n (itA x)=true:=by simp [itA,itc,AV.under,under_app',under_bs,AV.under.go]
theorem itc_under {n:Nat} {x:It}:AV.under.go n (itc x)=true:=by simp [itc,AV.under,under_app',under_bs,AV.under.go]
theorem itA_low {n:Nat}:∀{l:List It},AV.under.go n (l.map itA)=true
  | []=>rfl
  | k :: l=>by simp only [List.map_cons,AV.under.go,itA_under,itA_low (l:=l),Bool.and_self]
theorem look_itc (x:It):(itc x).map AV.look=itc x:=by simp [itc,map_look_bs]; rfl
theorem ixl_it {l:List It} {i c:Nat} {k:IntKind} (h:i < l.length) (hc:c≠0):indexAddrL (.sl c) (.list .sh c (l.map itA)) (.s (.int k (i:Int)))=some (.rop (itc l[i])):=ixl_map h hc
theorem beq_itc (a b:It):AV.beq.go (itc a) (itc b)=decide (a=b):=by
  rw [itc,itc,beq_app_k,beq_kk]
  cases a; cases b
  simp [AV.beq.go,AV.beq,It.mk.injEq,Bool.decide_and,Bool.and_assoc]
theorem fits_itc (w:It):fitsL (lk ++ [.str]) (itc w)=true:=by rw [itc,fits_kr]; rfl
theorem take_itc (w:It):(itc w).take 17=itc w:=List.take_of_length_le (Nat.le_of_eq (itc_length w))
theorem take_itk (w:It):(itc w).take 16=bs w.key.b:=take_kc _ _
theorem drop_itc (w:It):(itc w).drop 16=[.s (.str w.val)]:=drop_kc _ _
theorem get_itc16 (x:It):(itc x)[16]? = some (.s (.str x.val)):=by rw [itc,get_kc16]; rfl
theorem IT_:type_of% @get_itc16∧type_of% @itc_length∧type_of% @itc_under∧type_of% @itA_low∧type_of% @look_itc∧type_of% @beq_itc∧type_of% @fits_itc∧type_of% @ixl_it∧type_of% @take_itc∧type_of% @take_itk∧type_of% @drop_itc:=⟨@get_itc16,@itc_length,@itc_under,@itA_low,@look_itc,@beq_itc,@fits_itc,@ixl_it,@take_itc,@take_itk,@drop_itc⟩
def lstIt (l:List It):AV := .list .sh 17 (l.map itA)
structure Msg where
  kind:Int
  frm:Int
  tto:Int
  id:Int
  num:Int
  stp:Stp
  key:Key
  unt:Key
  writes:List Wr
  items:List It
  val:List UInt8
  found:Bool
  yes:Bool
  err:Int
  deriving DecidableEq
end Go.AM
namespace Go.AM
open Go
set_option maxRecDepth 20000
def tF (_:Int):AV := .bool true
structure Tx1 where
  snap:Stp
  ws:List Wr
  step:Int
  spl:List Wr
  parts:List Nat
  said:List Int
  yes:Bool
  st:Stp
  err:Int
def txq (x:Tx1) (hw:Nat) (pv sv dv:AV):List AV:=[.s (.int .i64 x.snap.t),u8 x.snap.n,.map hw,.s (.int .i64 x.step),pv,sv,dv,.s (.bool x.yes),.s (.int .i64 x.st.t),u8 x.st.n,.s (.int .i64 x.err)]
def tx0 (s:Stp):Tx1:=⟨s,[],0,[],[],[],false,⟨0,0⟩,0⟩
structure TxE (H:List HObj) (O:List Nat) (b hw:Nat) (x:Tx1):Prop where
  atb:H[b]? = some (.cells (txq x hw (.s .nilS) (.s .nilS) (.s .nilM)))
  atw:MapKW H hw x.ws
  np:x.parts=[]
  ns:x.said=[]
  n1:b≠hw
  own:b∈O∧hw∈O
structure TxV (H:List HObj) (O:List Nat) (b hw hs hp:Nat) (pts:List Key) (x:Tx1):Prop where
  atb:H[b]? = some (.cells (txq x hw (lstI x.parts) (.row (.heap hp) 0 (pts.length + 1) (pts.length + 1)) (.map hs)))
  atw:MapKW H hw x.ws
  np:x.parts=partsC pts x.spl
  ls:x.spl.length≤1000∧pts.length≤1000
  ats:∃es c,H[hs]? = some (.map es c)∧MapG iA (fun i=>i) tF es c x.said
  nd:x.said.Nodup
  atp:H[hp]? = some (.cells (splitC pts x.spl))
  n1:b≠hw
  n2:b≠hs
  n3:b≠hp
  n4:hw≠hs
  n5:hw≠hp
  n6:hs≠hp
  own:b∈O∧hw∈O∧hs∈O∧hp∈O
def TxP (H:List HObj) (O:List Nat) (b:Nat) (pts:List Key) (x:Tx1):Prop:=(∃hw,TxE H O b hw x)∨∃hw hs hp,TxV H O b hw hs hp pts x
theorem mapkw_keep {H H':List HObj} {l:List Nat} {hw:Nat} {ws:List Wr} (t:MapKW H hw ws) (k:KeepF H H' l) (e:hw∉l):MapKW H' hw ws:=by
  obtain ⟨⟨es,c,a,g⟩,nd,ln⟩:=t
  exact ⟨⟨es,c,k.get a e,g⟩,nd,ln⟩
section
variable {H H':List HObj} {O O' l:List Nat} {b hw hs hp:Nat} {pts:List Key} {x y:Tx1}
theorem TxE.keep (t:TxE H O b hw x) (k:KeepF H H' l) (e:∀i∈O,i∉l) (eo:∀i∈O,i∈O'):TxE H' O' b hw x :=
  ⟨k.get t.atb (e _ t.own.1),mapkw_keep t.atw k (e _ t.own.2),t.np,t.ns,t.n1,eo _ t.own.1,eo _ t.own.2⟩
theorem TxV.keep (t:TxV H O b hw hs hp pts x) (k:KeepF H H' l) (e:∀i∈O,i∉l) (eo:∀i∈O,i∈O'):TxV H' O' b hw hs hp pts x:=by
  obtain ⟨es,c,a,g⟩:=t.ats
  exact ⟨k.get t.atb (e _ t.own.1),mapkw_keep t.atw k (e _ t.own.2.1),t.np,t.ls,⟨es,c,k.get a (e _ t.own.2.2.1),g⟩,t.nd,k.get t.atp (e _ t.own.2.2.2),t.n1,t.n2,t.n3,t.n4,t.n5,t.n6,eo _ t.own.1,eo _ t.own.2.1,eo _ t.own.2.2.1,eo _ t.own.2.2.2⟩
theorem TxP.keep (t:TxP H O b pts x) (k:KeepF H H' l) (e:∀i∈O,i∉l) (eo:∀i∈O,i∈O'):TxP H' O' b pts x:=by
  rcases t with ⟨hw,t⟩ | ⟨hw,hs,hp,t⟩
  · exact .inl ⟨hw,t.keep k e eo⟩
  · exact .inr ⟨hw,hs,hp,t.keep k e eo⟩
theorem TxV.fresh (t:TxV H O b hw hs hp pts x) (low:∀i∈O,i < H.length) (e1:y.ws=x.ws) (e2:y.spl=x.spl) (e3:y.parts=x.parts) (e4:y.said=[]):TxV ((H ++ [HObj.map [] 0]).set b (.cells (txq y hw (lstI x.parts) (.row (.heap hp) 0 (pts.length + 1) (pts.length + 1)) (.map H.length)))) (H.length :: O) b hw H.length hp pts y:=by
  obtain ⟨hb,⟨⟨q3,c3,a3,g3⟩,n,ln⟩,p,pl,⟨e5,c5,a,g5⟩,snd,atp,n1,n2,n3,n4,n5,n6,⟨o1,o2,o3,o4⟩⟩:=t
  have l1:=low _ o1
  have l2:=low _ o2
  have l4:=low _ o4
  rw [←e3]
  refine ⟨hself (happ hb),⟨⟨q3,c3,hset n1 (happ a3),?_⟩,?_,?_⟩,?_,by rw [e2]; exact pl,⟨[],0,hset (o:=HObj.map [] 0) (by omega) (by simp),?_⟩,?_,?_,n1,by omega,n3,by omega,n5,by omega,List.mem_cons_of_mem _ o1,List.mem_cons_of_mem _ o2,List.mem_cons_self,List.mem_cons_of_mem _ o4⟩
  · rw [e1]; exact g3
  · rw [e1]; exact n
  · rw [e1]; exact ln
  · rw [e3,e2]; exact p
  · rw [e4]; exact ⟨rfl,.nil,fun e h=>by cases h⟩
  · rw [e4]; exact .nil
  · rw [e2]; exact hset n3 (happ atp)
end
theorem pw_ne {α:Type} {R:α→α→Prop} (hs:∀a b,R a b→R b a):∀{l:List α},l.Pairwise R→∀a∈l,∀b∈l,a≠b→R a b
  | [],_,a,ha,_,_,_=>by cases ha
  | x :: l,h,a,ha,b,hb,hne=>by
    obtain ⟨h1,h2⟩:=List.pairwise_cons.1 h
    rcases List.mem_cons.1 ha with e | ha' <;> rcases List.mem_cons.1 hb with e' | hb'
    · exact absurd (e.trans e'.symm) hne
    · rw [e]; exact h1 b hb'
    · rw [e']; exact hs _ _ (h1 a ha')
    · exact pw_ne hs h2 a ha' b hb' hne
structure FT where
  id:Int
  b:Nat
  O:List Nat
  x:Tx1
def FT.p (t:FT):Int×Tx1:=(t.id,t.x)
def ptF (t:FT):AV := .ptr (.heap t.b) 0
structure FrG (H:List HObj) (O:List Nat) (h hl ht:Nat) (pts:List Key) (l:List FT):Prop where
  at0:H[h]? = some (.cells [.ptr (.heap ht) 0,.map hl])
  tab:H[ht]? = some (tabA pts)
  atl:∃es c,H[hl]? = some (.map es c)∧MapG iA FT.id ptF es c l
  nd:(l.map FT.id).Nodup
  ne:h≠hl
  tx:∀t∈l,TxP H t.O t.b pts t.x∧∀i∈t.O,i∈O∧i≠h∧i≠hl
  dis:l.Pairwise (fun s t=>∀i∈s.O,i∉t.O)
  own:h∈O∧hl∈O
  low:∀i∈O,i < H.length
  nt:ht∉O
section
variable {H H':List HObj} {O O':List Nat} {h hl ht:Nat} {pts:List Key} {l:List FT}
theorem FrG.look {S:List (List AV)} (t:FrG H O h hl ht pts l) (i:Int):lookupL (.one (.int .i64)) (.s .nilP) false (.map hl) (.s (.int .i64 i)) ⟨S,H⟩=some (match getB FT.id l i with | some t=>ptF t | none => .s .nilP):=by
  obtain ⟨es,c,a,g⟩:=t.atl
  have:=map_look keyK_int (S:=S) (k:=i) (z := .s .nilP) (ok:=false) a g.rel
  rw [show iA i=AV.s (.int .i64 i) from rfl] at this
  rw [this]
  cases getB FT.id l i <;> rfl
theorem FrG.keep {k:List Nat} (t:FrG H O h hl ht pts l) (e:KeepF H H' k) (e1:∀i∈O,i∉k) (e2:ht∉k):FrG H' O h hl ht pts l:=by
  obtain ⟨es,c,a,g⟩:=t.atl
  exact ⟨e.get t.at0 (e1 _ t.own.1),e.get t.tab e2,⟨es,c,e.get a (e1 _ t.own.2),g⟩,t.nd,t.ne,fun s hs=>⟨(t.tx s hs).1.keep e (fun i hi=>e1 i ((t.tx s hs).2 i hi).1) (fun _ h=>h),(t.tx s hs).2⟩,t.dis,t.own,fun i hi=>Nat.lt_of_lt_of_le (t.low i hi) e.1,t.nt⟩
theorem FrG.step {s:FT} {x:Tx1} {P:List Nat} (t:FrG H O h hl ht pts l) (hs:s∈l) (lf:Left H H' s.O P) (tp:TxP H' P s.b pts x) (lw:∀i∈P,i < H'.length):FrG H' (O ++ P) h hl ht pts (l.map fun r=>if r.id=s.id then ⟨s.id,s.b,P,x⟩ else r)∧Left H H' O (O ++ P):=by
  have k:=lf.keep
  have own:=(t.tx s hs).2
  have hP:∀i∈P,i∉O→H.length≤i:=fun i hi ho=>(lf.old i hi).elim (fun q=>absurd (own i q).1 ho) id
  have hPn:∀i∈P,i≠h∧i≠hl∧i≠ht:=fun i hi=>by
    have a1:=hlt t.at0
    have a2:=hlt t.tab
    obtain ⟨_,_,a3,_⟩:=t.atl
    have a3:=hlt a3
    rcases lf.old i hi with q | q
    · exact ⟨(own i q).2.1,(own i q).2.2,fun e=>t.nt (e▸(own i q).1)⟩
    · omega
  obtain ⟨es,c,a,g⟩:=t.atl
  have kO:KeepF H H' O:=k.mono fun i hi => .inl (own i hi).1
  have hn1:h∉s.O:=fun q=>(own h q).2.1 rfl
  have hn2:hl∉s.O:=fun q=>(own hl q).2.2 rfl
  have hn3:ht∉s.O:=fun q=>t.nt (own ht q).1
  have hid:∀r∈l,r.id=s.id→r=s:=fun r hr e=>by
    have:=t.nd
    rw [List.Nodup,List.pairwise_map] at this
    by_cases q:r=s
    · exact q
    · exact absurd e (pw_ne (R:=fun a b:FT=>a.id≠b.id) (fun _ _ f e=>f e.symm) this r hr s hs q)
  have hdis:∀r∈l,r≠s→∀i∈r.O,i∉s.O:=fun r hr e => 
    pw_ne (R:=fun a b:FT=>∀i∈a.O,i∉b.O) (fun _ _ f i hi hj=>f i hj hi) t.dis r hr s hs e
  have hmapid:(l.map fun r=>if r.id=s.id then (⟨s.id,s.b,P,x⟩:FT) else r).map FT.id=l.map FT.id:=by
    rw [List.map_map]
    refine List.map_congr_left fun r _ => ?_
    dsimp only [Function.comp]
    split
    · rename_i e; exact e.symm
    · rfl
  refine ⟨⟨k.get t.at0 hn1,k.get t.tab hn3,⟨es,c,k.get a hn2,?_,g.nd,g.lt⟩,by rw [hmapid]; exact t.nd,t.ne,?_,?_,⟨List.mem_append_left _ t.own.1,List.mem_append_left _ t.own.2⟩,?_,?_⟩,⟨kO,fun i hi=>(List.mem_append.1 hi).elim .inl fun q=>(lf.old i q).imp (fun q=>(own i q).1) id⟩⟩
  · have:=g.rel
    unfold RelM at this ⊢
    rw [this,List.map_map]
    refine List.map_congr_left fun r hr => ?_
    dsimp only [Function.comp]
    split
    · rename_i e; rw [hid r hr e]; rfl
    · rfl
  · intro r hr
    obtain ⟨r',hr',rfl⟩:=List.mem_map.1 hr
    by_cases e:r'.id=s.id
    · rw [if_pos e]
      exact ⟨tp,fun i hi=>⟨List.mem_append_right _ hi,(hPn i hi).1,(hPn i hi).2.1⟩⟩
    · rw [if_neg e]
      have hne:r'≠s:=fun q=>e (by rw [q])
      exact ⟨(t.tx r' hr').1.keep k (hdis r' hr' hne) (fun _ h=>h),fun i hi=>⟨List.mem_append_left _ ((t.tx r' hr').2 i hi).1,((t.tx r' hr').2 i hi).2⟩⟩
  · rw [List.pairwise_map]
    refine List.Pairwise.imp_of_mem ?_ (t.dis.and (by have:=t.nd; rw [List.Nodup,List.pairwise_map] at this; exact this))
    rintro r r' hr hr' ⟨f,f2⟩ i hi hj
    have low:∀u∈l,∀i∈u.O,i < H.length:=fun u hu i hi=>t.low i ((t.tx u hu).2 i hi).1
    by_cases e:r.id=s.id <;> by_cases e':r'.id=s.id
    · exact f2 (e.trans e'.symm)
    · rw [if_pos e] at hi; rw [if_neg e'] at hj
      rcases lf.old i hi with q | q
      · exact hdis r' hr' (fun q=>e' (by rw [q])) i hj q
      · have:=low r' hr' i hj; omega
    · rw [if_neg e] at hi; rw [if_pos e'] at hj
      rcases lf.old i hj with q | q
      · exact hdis r hr (fun q=>e (by rw [q])) i hi q
      · have:=low r hr i hi; omega
    · rw [if_neg e] at hi; rw [if_neg e'] at hj
      exact f i hi hj
  · intro i hi
    rcases List.mem_append.1 hi with q | q
    · exact Nat.lt_of_lt_of_le (t.low i q) k.1
    · exact lw i q
  · intro q
    rcases List.mem_append.1 q with q | q
    · exact t.nt q
    · exact (hPn ht q).2.2 rfl
end
end Go.AM
namespace Go.AM
open Go
set_option maxRecDepth 20000
theorem re0F:refEq 0 (.s .nilP) (.s .nilP)=some true:=rfl
theorem re1F {n:Nat}:refEq 0 (.ptr (.heap n) 0) (.s .nilP)=some false:=rfl
section
variable {H H':List HObj} {O O':List Nat} {h hl ht:Nat} {pts:List Key} {l:List FT}
theorem FrG.bAt (t:FrG H O h hl ht pts l) {s:FT} (hs:s∈l):∀i∈s.O,i < H.length:=fun i hi=>t.low i ((t.tx s hs).2 i hi).1
theorem FrG.add {x:Tx1} {id:Int} (t:FrG H O h hl ht pts l) (hn:∀s∈l,s.id≠id) {es:List Entry} {c:Nat} (a:H[hl]? = some (.map es c)) (g:MapG iA FT.id ptF es c l) {s:Stp}:FrG ((H ++ [HObj.map [] 0,HObj.cells (txq (tx0 s) H.length (.s .nilS) (.s .nilS) (.s .nilM))]).set hl (HObj.map (es ++ [⟨AV.s (.int .i64 id),AV.ptr (.heap (H.length + 1)) 0,c⟩]) (c + 1))) (O ++ [H.length + 1,H.length]) h hl ht pts (l ++ [⟨id,H.length + 1,[H.length + 1,H.length],tx0 s⟩]):=by
  have l0:=hlt t.at0
  have l1:=hlt a
  have l2:=hlt t.tab
  have hnt:ht≠hl:=fun e=>t.nt (e▸t.own.2)
  refine ⟨hset t.ne.symm (happ t.at0),hset hnt.symm (happ t.tab),⟨_,_,hself (happ a),g.new (x:=(⟨id,H.length + 1,[H.length + 1,H.length],tx0 s⟩:FT))⟩,?_,t.ne,?_,?_,⟨List.mem_append_left _ t.own.1,List.mem_append_left _ t.own.2⟩,?_,?_⟩
  · rw [List.map_append,List.nodup_append]
    exact ⟨t.nd,by simp,fun i hi j hj e=>by
      obtain ⟨r,hr,rfl⟩:=List.mem_map.1 hi
      have hj:j=id:=by simpa using hj
      exact hn r hr (e.trans hj)⟩
  · intro r hr
    rcases List.mem_append.1 hr with hr | hr
    · obtain ⟨q1,q2⟩:=t.tx r hr
      refine ⟨q1.keep (l:=[hl]) ⟨by simp,fun i hi e => ?_⟩ (fun i hi e=>(q2 i hi).2.2 (by simpa using e)) (fun _ h=>h),fun i hi=>⟨List.mem_append_left _ (q2 i hi).1,(q2 i hi).2⟩⟩
      rw [List.getElem?_set_ne (fun q=>e (by rw [q]; simp)),List.getElem?_append_left hi]
    · have hr:r=_:=List.mem_singleton.1 hr
      subst hr
      refine ⟨.inl ⟨H.length,hset (show hl≠H.length + 1 by omega) (by simp),⟨⟨[],0,hset (o:=HObj.map [] 0) (by omega) (by simp),rfl,.nil,fun e h=>by cases h⟩,.nil,by simp [tx0]⟩,rfl,rfl,Nat.succ_ne_self _,by simp⟩,fun i hi=>⟨List.mem_append_right _ hi,?_⟩⟩
      have:i=H.length + 1∨i=H.length:=by simpa using hi
      omega
  · rw [List.pairwise_append]
    refine ⟨t.dis,by simp,fun r hr r' hr' i hi hj => ?_⟩
    have hr':r'=_:=List.mem_singleton.1 hr'
    subst hr'
    have:=t.bAt hr i hi
    have hj:i=H.length + 1∨i=H.length:=by simpa using hj
    omega
  · intro i hi
    rw [List.length_set,List.length_append]
    rcases List.mem_append.1 hi with q | q
    · have:=t.low i q; omega
    · have:i=H.length + 1∨i=H.length:=by simpa using q
      simp; omega
  · intro q
    rcases List.mem_append.1 q with q | q
    · exact t.nt q
    · have:ht=H.length + 1∨ht=H.length:=by simpa using q
      omega
end
theorem TxP.cell {H:List HObj} {O:List Nat} {b:Nat} {pts:List Key} {x:Tx1} (t:TxP H O b pts x):∃hw pv sv dv,H[b]? = some (.cells (txq x hw pv sv dv)):=by
  rcases t with ⟨hw,t⟩ | ⟨hw,hs,hp,t⟩
  · exact ⟨_,_,_,_,t.atb⟩
  · exact ⟨_,_,_,_,t.atb⟩
end Go.AM
namespace Go.AM
open Go
set_option maxRecDepth 20000
def StNewS (C:CallW) (f:FuncId):Prop:=∀S H (K:AV→St→Prop),(∀H' h O,StA H' O h []→Left H H' [] O→K (.ptr (.heap h) 0) ⟨S,H'⟩)→C (.fn f) [] ⟨S,H⟩ K
theorem store_New_spec {C:CallW} (P:Program):∀S H (K:AV→St→Prop),(∀H' h O,StA H' O h []→Left H H' [] O→K (.ptr (.heap h) 0) ⟨S,H'⟩)→runL C P Cz2z [] ⟨S,H⟩ K:=by
  intro S H K hK
  simp only [Cz2z,A_,simprocAttr,ne_eq,Uz5a.1]
  refine hK _ _ [H.length,H.length + 1] ⟨H.length,[],{ at0 := ?_,map:=⟨[],0,?_,rfl,.nil,fun e h=>(by cases h)⟩,ch:=fun c hc=>(by cases hc),nk := .nil,nb := .nil,ok:=fun c hc=>(by cases hc),own:=⟨?_,?_,fun c hc=>(by cases hc)⟩,low:=fun i hi => ?_ },rfl⟩ ⟨.app,fun i hi => ?_⟩
  · simp
  · simp
  · simp
  · simp
  · simp at hi ⊢; omega
  · simp at hi; omega
def OfS (C:CallW) (f:FuncId):Prop:=∀(h hm:Nat) (l:List CH) (O:List Nat) (k:Key) S H (K:AV→St→Prop),StG H O h hm l→(∀c,getB CH.k l k=some c→K (.ptr (.heap c.b) 0) ⟨S,H⟩)→(getB CH.k l k=none→K (.ptr (.heap H.length) 0) ⟨S,H ++ [.cells [.s .nilS]]⟩)→C (.fn f) [.ptr (.heap h) 0,.agg (bs k.b)] ⟨S,H⟩ K
set_option maxHeartbeats 2000000 in
theorem store_of_spec {C:CallW} (P:Program) {c:Nat→FuncId} (h0:ChNewS C (c 0)):∀(h hm:Nat) (l:List CH) (O:List Nat) (k:Key) S H (K:AV→St→Prop),StG H O h hm l→(∀c,getB CH.k l k=some c→K (.ptr (.heap c.b) 0) ⟨S,H⟩)→(getB CH.k l k=none→K (.ptr (.heap H.length) 0) ⟨S,H ++ [.cells [.s .nilS]]⟩)→runL C P (Cz11 c) [.ptr (.heap h) 0,.agg (bs k.b)] ⟨S,H⟩ K:=by
  intro h hm l O k S H K t k1 k2
  have a0:=t.at0
  have lk:=fun S'=>lookS (S:=S') t k false
  cases hg:getB CH.k l k with
  | none =>
    simp only [hg,lookR,Bool.false_eq_true,if_false] at lk
    simp only [Cz11,A_,simprocAttr,ne_eq,(Uz1q _).1,CHK_,Nat.reduceBEq,a0,lk,re0F]
    refine h0 _ _ _ ?_
    simp only [Cz11,A_,simprocAttr,ne_eq,(Uz1q _).1,CHK_,Nat.reduceBEq]
    exact k2 hg
  | some c =>
    simp only [hg,lookR,Bool.false_eq_true,if_false,chP] at lk
    simp only [Cz11,A_,simprocAttr,ne_eq,(Uz1q _).1,CHK_,Nat.reduceBEq,a0,lk,re1F]
    exact k1 c hg
def StOfR (C:CallW) (f:FuncId):Prop:=∀(h:Nat) (Q:Sto) (O:List Nat) (k:Key) S H (K:AV→St→Prop),StA H O h Q→(∀b G,(H ++ G)[b]? = some (.cells [chK (ofQ Q k)])→K (.ptr (.heap b) 0) ⟨S,H ++ G⟩)→C (.fn f) [.ptr (.heap h) 0,.agg (bs k.b)] ⟨S,H⟩ K
theorem stOfR_of {C:CallW} {f:FuncId} (h0:OfS C f):StOfR C f:=by
  intro h Q O k S H K t hK
  obtain ⟨hm,l,t,rfl⟩:=t
  refine h0 h hm l O k S H K t (fun c hg => ?_) fun hg => ?_
  · have:=hK c.b [] (by rw [List.append_nil,ofQ_some hg]; exact t.ch c (getB_some_iff hg).1)
    rwa [List.append_nil] at this
  · exact hK H.length [.cells [.s .nilS]] (by rw [ofQ_none hg]; simp [chK])
theorem ofQ_ok {H:List HObj} {O:List Nat} {h:Nat} {Q:Sto} (t:StA H O h Q) (k:Key):SorV (ofQ Q k)∧(ofQ Q k).length≤50∧∀v∈ofQ Q k,v.val.length≤200:=by
  obtain ⟨hm,l,t,rfl⟩:=t
  cases hg:getB CH.k l k with
  | none=>rw [ofQ_none hg]; exact ⟨.nil,by simp,fun v hv=>by cases hv⟩
  | some c =>
    rw [ofQ_some hg]
    have:=t.ok c (getB_some_iff hg).1
    exact ⟨this.2.1,this.2.2.1,this.2.2.2⟩
def getS (Q:Sto) (k:Key) (s:Stp):List UInt8×Bool:=match atV (ofQ Q k) s with
  | some v=>if v.gone=true then ([],false) else (v.val,true)
  | none=>([],false)
def StGetS (C:CallW) (f:FuncId):Prop:=∀(h:Nat) (Q:Sto) (O:List Nat) (k:Key) (s:Stp) S H (K:AV→St→Prop),StA H O h Q→(∀G,K (.tup [.s (.str (getS Q k s).1),.s (.bool (getS Q k s).2)]) ⟨S,H ++ G⟩)→C (.fn f) [.ptr (.heap h) 0,.agg (bs k.b),.agg (stc s)] ⟨S,H⟩ K
set_option maxHeartbeats 4000000 in
theorem store_Get_spec {C:CallW} (P:Program) {c:Nat→FuncId} (h0:StOfR C (c 0)) (h1:PAtS C (c 1)):∀(h:Nat) (Q:Sto) (O:List Nat) (k:Key) (s:Stp) S H (K:AV→St→Prop),StA H O h Q→(∀G,K (.tup [.s (.str (getS Q k s).1),.s (.bool (getS Q k s).2)]) ⟨S,H ++ G⟩)→runL C P (Cz9 c) [.ptr (.heap h) 0,.agg (bs k.b),.agg (stc s)] ⟨S,H⟩ K:=by
  intro h Q O k s S H K t hK
  have ok:=ofQ_ok t k
  have h1':=fun b X vs=>h1 b X vs s
  simp only [stc] at h1'
  simp only [stc,Cz9,A_,simprocAttr,ne_eq,(Uzb _).1,CHK_,Nat.reduceBEq]
  unfold getS at hK
  refine ⟨h0 h Q O k _ _ _ t fun b G hb => ?_,h0 h Q O k _ _ _ t fun b G hb => ?_⟩
  · simp only [stc,Cz9,A_,simprocAttr,ne_eq,(Uzb _).1,CHK_,Nat.reduceBEq]
    refine ⟨h1' b _ _ _ _ _ hb (.inl rfl) ok.1 (by omega) ?_,h1' b _ _ _ _ _ hb (.inl rfl) ok.1 (by omega) ?_⟩
    all_goals
      have hK:=hK G
      cases hv:atV (ofQ Q k) s with
      | none =>
        rw [hv] at hK
        simp only [stc,verc,ver0,Option.getD_none,Option.isSome_none,Cz9,A_,simprocAttr,ne_eq,(Uzb _).1,CHK_,Nat.reduceBEq]
        exact hK
      | some v =>
        simp only [hv] at hK
        simp only [stc,verc,Option.getD_some,Option.isSome_some,Cz9,A_,simprocAttr,ne_eq,(Uzb _).1,CHK_,Nat.reduceBEq]
        cases hg:v.gone with
        | true => 
          simp only [hg,if_true] at hK
          simp only [stc,verc,hg,Cz9,A_,simprocAttr,ne_eq,(Uzb _).1,CHK_,Nat.reduceBEq]
          exact hK
        | false =>
          simp only [hg,Bool.false_eq_true,if_false] at hK
          simp only [stc,verc,hg,Cz9,A_,simprocAttr,ne_eq,(Uzb _).1,CHK_,Nat.reduceBEq]
          exact hK
  · simp only [stc,Cz9,A_,simprocAttr,ne_eq,(Uzb _).1,CHK_,Nat.reduceBEq]
    refine h1' b _ _ _ _ _ hb (.inl rfl) ok.1 (by omega) ?_
    have hK:=hK G
    cases hv:atV (ofQ Q k) s with
    | none =>
      rw [hv] at hK
      simp only [stc,verc,ver0,Option.getD_none,Option.isSome_none,Cz9,A_,simprocAttr,ne_eq,(Uzb _).1,CHK_,Nat.reduceBEq]
      exact hK
    | some v =>
      simp only [hv] at hK
      simp only [stc,verc,Option.getD_some,Option.isSome_some,Cz9,A_,simprocAttr,ne_eq,(Uzb _).1,CHK_,Nat.reduceBEq]
      cases hg:v.gone with
      | true => 
        simp only [hg,if_true] at hK
        simp only [stc,verc,hg,Cz9,A_,simprocAttr,ne_eq,(Uzb _).1,CHK_,Nat.reduceBEq]
        exact hK
      | false =>
        simp only [hg,Bool.false_eq_true,if_false] at hK
        simp only [stc,verc,hg,Cz9,A_,simprocAttr,ne_eq,(Uzb _).1,CHK_,Nat.reduceBEq]
        exact hK
end Go.AM
namespace Go.AM
open Go
open AV renaming undef → uu
set_option maxRecDepth 20000
def roomF (Q:Sto) (n:Nat):List Wr→Bool
  | []=>decide (n≤200)
  | w :: l=>if 50≤(ofQ Q w.key).length then false else roomF Q (if ofQ Q w.key=[] then n + 1 else n) l
def roomB (Q:Sto) (l:List Wr):Bool:=roomF Q Q.length l
theorem ofQ_nil {H:List HObj} {O:List Nat} {h hm:Nat} {l:List CH} (t:StG H O h hm l) {k:Key}:ofQ (l.map CH.p) k=[]↔getB CH.k l k=none:=by
  cases hg:getB CH.k l k with
  | none=>simp [ofQ_none hg]
  | some c=>simp [ofQ_some hg,(t.ok c (getB_some_iff hg).1).1]
def RoomS (C:CallW) (f:FuncId):Prop:=∀(h:Nat) (Q:Sto) (O:List Nat) (l:List Wr) S H (K:AV→St→Prop),StA H O h Q→Q.length≤1000→l.length≤1000→(∀G,K (.bool (roomB Q l)) ⟨S,H ++ G⟩)→C (.fn f) [.ptr (.heap h) 0,lstW l] ⟨S,H⟩ K
set_option maxHeartbeats 8000000 in
theorem store_room_spec {C:CallW} (hC:LeC C C) (P:Program) {c:Nat→FuncId} (h0:StOfR C (c 0)) (h1:PLenS C (c 1)):∀(h:Nat) (Q:Sto) (O:List Nat) (l:List Wr) S H (K:AV→St→Prop),StA H O h Q→Q.length≤1000→l.length≤1000→(∀G,K (.bool (roomB Q l)) ⟨S,H ++ G⟩)→runL C P (Cz1e c) [.ptr (.heap h) 0,lstW l] ⟨S,H⟩ K:=by
  rintro h _ O l S H K ⟨hm,cl,t,rfl⟩ hq hl hK
  have a0:=t.at0
  have ln:=fun S'=>lenS (S:=S') t
  have tA:StA H O h (cl.map CH.p):=⟨hm,cl,t,rfl⟩
  rw [List.length_map] at hq
  simp only [lstW,Cz1e,A_,simprocAttr,ne_eq,(Uzg _).1,CHK_,Nat.reduceBEq,a0,ln]
  refine loop_rule hC (α:=Nat×Nat×List HObj) (fun a=>l.length - a.1) (fun a=>[.ptr (.heap h) 0,uu,uu,uu,uu,.s (.int .i64 a.2.1),uu,uu,uu,uu,uu,uu,uu,.list .sh 18 (l.map wA),.s (.int .i64 l.length),.s (.int .i64 a.1),uu,uu,uu,uu,uu,uu,uu,uu,uu,uu,uu,uu,uu,uu,uu,uu,uu,uu,uu,uu,uu,uu]) (fun _=>S) (fun a=>H ++ a.2.2) (fun a=>a.1≤l.length∧a.2.1≤cl.length + a.1∧roomB (cl.map CH.p) l=roomF (cl.map CH.p) a.2.1 (l.drop a.1)) (0,cl.length,[]) ⟨by simp,by simp,by simp [roomB]⟩ rfl (by simp) (by simp) (fun a _=>by simp [AV.under,AV.under.go]) ?_
  rintro ⟨i,n,G⟩ ⟨hi,hn,hinv⟩ ih
  dsimp only at hi hn hinv
  by_cases h16:i < l.length
  · have hlt:((i:Int) < (l.length:Int)):=by omega
    have hw:IntKind.i64.wrap ((i:Int) + 1)=(i:Int) + 1:=wrap_i64 (by omega) (by omega)
    have hw2:IntKind.i64.wrap ((n:Int) + 1)=(n:Int) + 1:=wrap_i64 (by omega) (by omega)
    have t':=t.app (G:=G)
    have a0':=t'.at0
    have lk:=fun S'=>lookS (S:=S') t' (l[i]).key false
    have ok:=ofQ_ok tA (l[i]).key
    have hnil:=ofQ_nil t (k:=(l[i]).key)
    rw [List.drop_eq_getElem_cons h16,roomF] at hinv
    cases hg:getB CH.k cl (l[i]).key with
    | none =>
      rw [if_neg (by rw [hnil.2 hg]; simp),if_pos (hnil.2 hg)] at hinv
      simp only [hg,lookR,Bool.false_eq_true,if_false] at lk
      simp only [A_,simprocAttr,ne_eq,(Uzg _).1,CHK_,Nat.reduceBEq,hlt,h16,a0',lk,re0F,hw2]
      refine h0 h _ O (l[i]).key _ _ _ tA.app fun b G' hb => ?_
      simp only [A_,simprocAttr,ne_eq,(Uzg _).1,CHK_,Nat.reduceBEq]
      rw [List.append_assoc] at hb
      refine h1 b _ _ _ _ _ hb (.inl rfl) ?_
      have hlt2:¬(50:Int)≤(((ofQ (cl.map CH.p) (l[i]).key).length:Nat):Int):=by rw [hnil.2 hg]; simp
      simp only [A_,simprocAttr,ne_eq,(Uzg _).1,CHK_,Nat.reduceBEq,hlt2,hw]
      exact ih (i + 1,n + 1,G ++ G') _ _ _ (by show l.length - (i + 1) < l.length - i; omega) ⟨by show i + 1≤l.length; omega,by show n + 1≤cl.length + (i + 1); omega,hinv⟩ rfl (by simp) (by simp)
    | some x =>
      have hne:¬ofQ (cl.map CH.p) (l[i]).key=[]:=by rw [hnil,hg]; simp
      rw [if_neg hne] at hinv
      simp only [hg,lookR,Bool.false_eq_true,if_false,chP] at lk
      simp only [A_,simprocAttr,ne_eq,(Uzg _).1,CHK_,Nat.reduceBEq,hlt,h16,a0',lk,re1F]
      refine h0 h _ O (l[i]).key _ _ _ tA.app fun b G' hb => ?_
      simp only [A_,simprocAttr,ne_eq,(Uzg _).1,CHK_,Nat.reduceBEq]
      rw [List.append_assoc] at hb
      refine h1 b _ _ _ _ _ hb (.inl rfl) ?_
      by_cases h5:50≤(ofQ (cl.map CH.p) (l[i]).key).length
      · have hlt2:(50:Int)≤(((ofQ (cl.map CH.p) (l[i]).key).length:Nat):Int):=by omega
        rw [if_pos h5] at hinv
        rw [hinv] at hK
        simp only [A_,simprocAttr,ne_eq,(Uzg _).1,CHK_,Nat.reduceBEq,hlt2]
        exact hK (G ++ G')
      · have hlt2:¬(50:Int)≤(((ofQ (cl.map CH.p) (l[i]).key).length:Nat):Int):=by omega
        rw [if_neg h5] at hinv
        simp only [A_,simprocAttr,ne_eq,(Uzg _).1,CHK_,Nat.reduceBEq,hlt2,hw]
        exact ih (i + 1,n,G ++ G') _ _ _ (by show l.length - (i + 1) < l.length - i; omega) ⟨by show i + 1≤l.length; omega,by show n≤cl.length + (i + 1); omega,hinv⟩ rfl (by simp) (by simp)
  · have hlt:¬((i:Int) < (l.length:Int)):=by omega
    rw [List.drop_of_length_le (by omega),roomF] at hinv
    rw [hinv] at hK
    have e:decide ((n:Int)≤200)=decide (n≤200):=by by_cases h:n≤200 <;> simp [h] <;> omega
    simp only [A_,simprocAttr,ne_eq,(Uzg _).1,CHK_,Nat.reduceBEq,hlt,e]
    exact hK _
end Go.AM
namespace Go.AM
open Go
open AV renaming undef → uu
set_option maxRecDepth 20000
def verW (s:Stp) (w:Wr):Ver:=⟨s,w.val,w.gone⟩
def stpA (s:Stp) (Q:Sto) (w:Wr):Sto:=setQ Q w.key (insV (ofQ Q w.key) (verW s w))
def appQ (Q:Sto) (s:Stp) (l:List Wr):Int×Sto :=
  if (goodS s && (decide (1≤l.length) && decide (l.length≤16)) && sgood [] l)=false then (1,Q) else
  if (l.any fun w=>hasV (ofQ Q w.key) s)=true then (5,Q) else
  if roomB Q l=false then (6,Q) else (0,l.foldl (stpA s) Q)
def ApplyS (C:CallW) (f:FuncId):Prop:=∀(h:Nat) (Q:Sto) (O:List Nat) (s:Stp) (l:List Wr) S H (K:AV→St→Prop),StA H O h Q→Q.length≤1000→l.length≤1000→(∀H' O',StA H' O' h (appQ Q s l).2→Left H H' O O'→K (.s (.int .i64 (appQ Q s l).1)) ⟨S,H'⟩)→C (.fn f) [.ptr (.heap h) 0,.agg (stc s),lstW l] ⟨S,H⟩ K
theorem StG.updSame {H:List HObj} {O:List Nat} {h hm:Nat} {l:List CH} (t:StG H O h hm l) {c:CH} (hc:c∈l):∃es cc,(∀S:List (List AV),updateL (.leaf lk) (.map hm) (.agg (bs c.k.b)) (.ptr (.heap c.b) 0) ⟨S,H⟩=some ⟨S,H.set hm (.map es cc)⟩)∧StG (H.set hm (.map es cc)) O h hm l:=by
  obtain ⟨es0,c0,a,g⟩:=t.map
  obtain ⟨es,cc,q1,q2⟩:=MapG.upd keyK_key (x:=c) a g t.nk rfl
  rw [putM_same t.nk hc] at q2
  have hms:∀{j:Nat} {cs:List AV},H[j]? = some (.cells cs)→hm≠j:=fun e q=>by
    subst q
    rw [a] at e; cases e
  exact ⟨es,cc,q1,⟨hset (hms t.at0) t.at0,⟨es,cc,hself a,q2⟩,fun z hz=>hset (hms (t.ch z hz)) (t.ch z hz),t.nk,t.nb,t.ok,t.own,fun i hi=>by rw [List.length_set]; exact t.low i hi⟩⟩
theorem mem_putM {β κ:Type} [DecidableEq κ] {kp:β→κ} {l:List β} {x:β}:x∈putM kp l x:=by
  unfold putM
  cases hg:getB kp l (kp x) with
  | none=>simp
  | some y=>exact List.mem_map.2 ⟨y,(getB_some_iff hg).1,if_pos (getB_some_iff hg).2⟩
theorem roomF_lt {Q:Sto}:∀{l:List Wr} {n:Nat},roomF Q n l=true→∀w∈l,(ofQ Q w.key).length < 50
  | [],n,_,w,hw=>by cases hw
  | x :: l,n,h,w,hw=>by
    unfold roomF at h
    split at h
    · cases h
    · rcases List.mem_cons.1 hw with rfl | hw
      · omega
      · exact roomF_lt h w hw
theorem sgood_okV:∀(l:List Wr) (seen:List Key) {s:Stp},goodS s=true→sgood seen l=true→∀w∈l,okV (verW s w)=true
  | [],seen,s,_,_,w,hw=>by cases hw
  | x :: l,seen,s,h0,h,w,hw=>by
    unfold sgood at h
    split at h
    · cases h
    split at h
    · cases h
    split at h
    · cases h
    split at h
    · cases h
    rename_i h3 h4
    rcases List.mem_cons.1 hw with rfl | hw
    · unfold okV verW
      simp only [h0,Bool.true_and]
      have:w.val.length≤200:=by omega
      cases hg:w.gone <;> simp [this]
      simp [hg] at h4
      exact h4
    · exact sgood_okV l _ h0 h w hw
theorem ofQ_setQ {Q:Sto} {k k':Key} {vs:List Ver}:ofQ (setQ Q k vs) k'=if k'=k then vs else ofQ Q k':=by
  unfold setQ
  cases hf:Q.find? fun p=>decide (p.1=k) with
  | none =>
    unfold ofQ
    rw [List.find?_append]
    by_cases e:k'=k
    · subst e
      rw [hf]
      simp
    · cases h2:Q.find? fun p=>decide (p.1=k') with
      | none=>simp [e,Ne.symm e]
      | some p=>simp [e]
  | some p0 =>
    dsimp only
    by_cases e:k'=k
    · subst e
      rw [if_pos rfl]
      have hf':∃p,Q.find? (fun p=>decide (p.1=k'))=some p:=⟨_,hf⟩
      clear hf p0
      induction Q with
      | nil=>obtain ⟨p,hp⟩:=hf'; cases hp
      | cons x Q ih =>
        obtain ⟨p,hf⟩:=hf'
        unfold ofQ
        rw [List.map_cons]
        by_cases h:x.1=k'
        · simp [h]
        · rw [List.find?_cons] at hf
          simp only [h,decide_false] at hf
          have:=ih ⟨_,hf⟩
          unfold ofQ at this
          simp only [h,if_false,List.find?_cons,decide_false]
          exact this
    · rw [if_neg e]
      unfold ofQ
      clear hf
      induction Q with
      | nil=>rfl
      | cons x Q ih =>
        rw [List.map_cons,List.find?_cons,List.find?_cons]
        by_cases h:x.1=k
        · have h2:¬x.1=k':=fun q=>e (q▸h)
          have h3:¬k=k':=fun q=>e q.symm
          simp only [h,if_true,h3,decide_false]
          exact ih
        · simp only [h,if_false]
          by_cases h2:x.1=k'
          · simp [h2]
          · simp only [h2,decide_false]; exact ih
theorem tk1 {α:Type} {S:List α} {a:α}:(S ++ [a]).take (S.length + 1)=S ++ [a]:=by rw [List.take_of_length_le (by simp)]
theorem tk2 {α:Type} {S:List α} {a b:α}:(S ++ [a,b]).take (S.length + 1)=S ++ [a]:=by
  rw [show S ++ [a,b]=(S ++ [a]) ++ [b] by simp,List.take_append_of_le_length (by simp),List.take_of_length_le (by simp)]
set_option maxHeartbeats 16000000 in
theorem store_Apply_spec {C:CallW} (hC:LeC C C) (P:Program) {c:Nat→FuncId} (h0:∀s:Stp,FnS C (c 0) [.agg (stc s)] (.bool (goodS s))) (h1:∀l:List Wr,FnS C (c 1) [lstW l] (.bool (decide (1≤l.length) && decide (l.length≤16)))) (h2:GoodWS C (c 2)) (h3:OfS C (c 3)) (h4:PHasS C (c 4)) (h5:RoomS C (c 5)) (h6:PPutS C (c 6)):∀(h:Nat) (Q:Sto) (O:List Nat) (s:Stp) (l:List Wr) S H (K:AV→St→Prop),StA H O h Q→Q.length≤1000→l.length≤1000→(∀H' O',StA H' O' h (appQ Q s l).2→Left H H' O O'→K (.s (.int .i64 (appQ Q s l).1)) ⟨S,H'⟩)→runL C P (Czd c) [.ptr (.heap h) 0,.agg (stc s),lstW l] ⟨S,H⟩ K:=by
  intro h Q O s l S H K t hq hl hK
  have h3':=stOfR_of h3
  have h1':=h1 l
  simp only [lstW] at h1'
  simp only [lstW,Czd,A_,simprocAttr,ne_eq,(Uz1 _).1,CHK_,Nat.reduceBEq]
  refine h0 s _ _ _ ?_
  cases e1:goodS s with
  | false =>
    have ea:appQ Q s l=(1,Q):=by simp [appQ,e1]
    rw [ea] at hK
    simp only [e1,Czd,A_,simprocAttr,ne_eq,(Uz1 _).1,CHK_,Nat.reduceBEq]
    exact hK _ _ t .refl
  | true =>
    simp only [e1,Czd,A_,simprocAttr,ne_eq,(Uz1 _).1,CHK_,Nat.reduceBEq]
    refine h1' _ _ _ ?_
    cases e2:(decide (1≤l.length) && decide (l.length≤16)) with
    | false =>
      have ea:appQ Q s l=(1,Q):=by unfold appQ; rw [e1,e2]; rfl
      rw [ea] at hK
      simp only [Czd,A_,simprocAttr,ne_eq,(Uz1 _).1,CHK_,Nat.reduceBEq]
      exact hK _ _ t .refl
    | true =>
      simp only [Czd,A_,simprocAttr,ne_eq,(Uz1 _).1,CHK_,Nat.reduceBEq]
      refine h2 l _ _ _ (by omega) fun G0 => ?_
      cases e3:sgood [] l with
      | false =>
        have ea:appQ Q s l=(1,Q):=by unfold appQ; rw [e1,e2,e3]; rfl
        rw [ea] at hK
        simp only [Czd,A_,simprocAttr,ne_eq,(Uz1 _).1,CHK_,Nat.reduceBEq]
        exact hK _ _ t.app .app
      | true =>
        simp only [Czd,A_,simprocAttr,ne_eq,(Uz1 _).1,CHK_,Nat.reduceBEq]
        refine loop_rule hC (α:=Nat×List HObj) (fun a=>l.length - a.1) (fun a=>[.ptr (.heap h) 0,.undef,.list .sh 18 (l.map wA),.undef,.ptr (.stk S.length) 0,uu,uu,uu,uu,uu,uu,uu,uu,uu,uu,uu,uu,uu,uu,uu,uu,uu,uu,uu,uu,.list .sh 18 (l.map wA),.s (.int .i64 l.length),.s (.int .i64 a.1),uu,uu,uu,uu,uu,uu,uu,uu,uu,uu,uu,uu,uu,uu,uu,uu,uu,uu,uu,uu,uu,uu,uu,uu,uu,uu,uu,uu,uu,uu,uu,uu,uu,uu,uu,uu,uu,uu,uu,uu]) (fun _=>S ++ [stc s]) (fun a=>H ++ a.2) (fun a=>a.1≤l.length∧(l.any fun w=>hasV (ofQ Q w.key) s)=((l.drop a.1).any fun w=>hasV (ofQ Q w.key) s)) (0,G0) ⟨by simp,by simp⟩ rfl tk1 rfl (fun a _=>by simp [AV.under,AV.under.go]) ?_
        rintro ⟨i,G⟩ ⟨hi,hinv⟩ ih
        dsimp only at hi hinv
        by_cases h16:i < l.length
        · have hlt:((i:Int) < (l.length:Int)):=by omega
          have hw:IntKind.i64.wrap ((i:Int) + 1)=(i:Int) + 1:=wrap_i64 (by omega) (by omega)
          have ok:=ofQ_ok t (l[i]).key
          rw [List.drop_eq_getElem_cons h16,List.any_cons] at hinv
          simp only [A_,simprocAttr,ne_eq,(Uz1 _).1,CHK_,Nat.reduceBEq,hlt,h16]
          refine h3' h Q O (l[i]).key _ _ _ t.app fun b G' hb => ?_
          simp only [A_,simprocAttr,ne_eq,(Uz1 _).1,CHK_,Nat.reduceBEq]
          rw [List.append_assoc] at hb
          refine h4 b _ _ _ _ _ _ hb (.inl rfl) ok.1 (by omega) ?_
          cases e4:hasV (ofQ Q (l[i]).key) s with
          | true =>
            rw [e4,Bool.true_or] at hinv
            have ea:appQ Q s l=(5,Q):=by unfold appQ; rw [e1,e2,e3,hinv]; rfl
            rw [ea] at hK
            simp only [A_,simprocAttr,ne_eq,(Uz1 _).1,CHK_,Nat.reduceBEq]
            exact hK _ _ t.app .app
          | false =>
            rw [e4,Bool.false_or] at hinv
            simp only [A_,simprocAttr,ne_eq,(Uz1 _).1,CHK_,Nat.reduceBEq,hw]
            exact ih (i + 1,G ++ G') _ _ _ (by show l.length - (i + 1) < l.length - i; omega) ⟨by show i + 1≤l.length; omega,hinv⟩ rfl tk2 rfl
        · have hlt:¬((i:Int) < (l.length:Int)):=by omega
          rw [List.drop_of_length_le (by omega),List.any_nil] at hinv
          simp only [A_,simprocAttr,ne_eq,(Uz1 _).1,CHK_,Nat.reduceBEq,hlt]
          refine h5 h Q O l _ _ _ t.app hq hl fun G2 => ?_
          cases e5:roomB Q l with
          | false =>
            have ea:appQ Q s l=(6,Q):=by unfold appQ; rw [e1,e2,e3,hinv,e5]; rfl
            rw [ea] at hK
            simp only [A_,simprocAttr,ne_eq,(Uz1 _).1,CHK_,Nat.reduceBEq]
            exact hK _ _ t.app .app
          | true =>
            have ea:appQ Q s l=(0,l.foldl (stpA s) Q):=by unfold appQ; rw [e1,e2,e3,hinv,e5]; rfl
            rw [ea] at hK
            simp only [A_,simprocAttr,ne_eq,(Uz1 _).1,CHK_,Nat.reduceBEq]
            have hnd:=(sgood_split l [] e3).1
            have hlen:=roomF_lt e5
            have hokv:=sgood_okV l [] e1 e3
            refine loop_rule hC (α:=Nat×List HObj×List Nat) (fun a=>l.length - a.1) (fun a=>[.ptr (.heap h) 0,uu,uu,uu,.ptr (.stk S.length) 0,uu,uu,uu,uu,uu,uu,uu,uu,uu,uu,uu,uu,uu,uu,uu,uu,uu,uu,uu,uu,uu,uu,uu,uu,uu,uu,uu,uu,uu,uu,uu,uu,uu,uu,uu,uu,uu,.list .sh 18 (l.map wA),.s (.int .i64 l.length),.s (.int .i64 a.1),uu,uu,uu,uu,uu,uu,uu,uu,uu,uu,uu,uu,uu,uu,uu,uu,uu,uu,uu,uu,uu,uu,uu]) (fun _=>S ++ [stc s]) (fun a=>a.2.1) (fun a=>a.1≤l.length∧Left H a.2.1 O a.2.2∧∃Q',StA a.2.1 a.2.2 h Q'∧l.foldl (stpA s) Q=(l.drop a.1).foldl (stpA s) Q'∧∀w∈l.drop a.1,ofQ Q' w.key=ofQ Q w.key) (0,_,O) ⟨by simp,.app,Q,t.app,by simp,fun _ _=>rfl⟩ rfl tk1 rfl (fun a _=>by simp [AV.under,AV.under.go]) ?_
            rintro ⟨i,Hx,Ox⟩ ⟨hi,hleft,Qx,tx,hfold,hsame⟩ ih
            dsimp only at hi hleft tx hfold hsame
            by_cases h17:i < l.length
            · have hlt:((i:Int) < (l.length:Int)):=by omega
              have hw:IntKind.i64.wrap ((i:Int) + 1)=(i:Int) + 1:=wrap_i64 (by omega) (by omega)
              have ok:=ofQ_ok t (l[i]).key
              have hmem:l[i]∈l:=List.getElem_mem h17
              have hvx:=hsame l[i] (by rw [List.drop_eq_getElem_cons h17]; exact List.mem_cons_self)
              have hhas:hasV (ofQ Q (l[i]).key) s=false:=by
                have:=List.any_eq_false.1 hinv l[i] hmem
                simpa using this
              have hput:putV (ofQ Qx (l[i]).key) (verW s l[i])=(0,insV (ofQ Q (l[i]).key) (verW s l[i])):=by
                rw [hvx]
                unfold putV
                have:=hlen _ hmem
                rw [if_neg (by rw [hokv _ hmem]; simp),if_neg (by show ¬hasV _ s=true; rw [hhas]; simp),if_neg (by omega)]
              have hch:ChOK (insV (ofQ Q (l[i]).key) (verW s l[i])):=by
                refine ⟨fun e => ?_,ins_sor ok.1 hhas,?_,fun v hv => ?_⟩
                · have:=congrArg List.length e; rw [ins_length] at this; simp at this
                · rw [ins_length]; have:=hlen _ hmem; omega
                · unfold insV at hv
                  rcases List.mem_append.1 hv with hv | hv
                  · exact ok.2.2 v (List.mem_of_mem_take hv)
                  · rcases List.mem_cons.1 hv with rfl | hv
                    · have:=hokv _ hmem
                      unfold okV at this
                      simp only [Bool.and_eq_true,decide_eq_true_eq] at this
                      exact this.1.2
                    · exact ok.2.2 v (List.mem_of_mem_drop hv)
              rw [List.drop_eq_getElem_cons h17,List.foldl_cons] at hfold
              have hstp:stpA s Qx l[i]=setQ Qx (l[i]).key (insV (ofQ Q (l[i]).key) (verW s l[i])):=by unfold stpA; rw [hvx]
              have hsame':∀w∈l.drop (i + 1),ofQ (stpA s Qx l[i]) w.key=ofQ Q w.key:=fun w hw=>by
                rw [hstp,ofQ_setQ]
                have hne:w.key≠(l[i]).key:=by
                  obtain ⟨j,hj,rfl⟩:=List.mem_iff_getElem.1 hw
                  rw [List.getElem_drop]
                  intro e
                  rw [List.length_drop] at hj
                  have:=List.pairwise_iff_getElem.1 hnd i (i + 1 + j) (by simpa using h17) (by simp; omega) (by omega)
                  simp at this
                  exact this e.symm
                rw [if_neg hne]
                exact hsame w (by rw [List.drop_eq_getElem_cons h17]; exact List.mem_cons_of_mem _ hw)
              obtain ⟨hm,cl,tg,rfl⟩:=tx
              simp only [A_,simprocAttr,ne_eq,(Uz1 _).1,CHK_,Nat.reduceBEq,hlt,h17]
              refine h3 h hm cl Ox (l[i]).key _ _ _ tg (fun y hy => ?_) fun hn => ?_
              · have hcm:=getB_some_iff hy
                rw [ofQ_some hy] at hput hvx
                have hcx:=tg.ch y hcm.1
                have h6':=h6 y.b y.vs (verW s l[i]) (S ++ [stc s,wc l[i]]) Hx
                rw [hput] at h6'
                have ts:=tg.setc hcm.1 hch
                have a0:=ts.at0
                obtain ⟨es,cc,up,tu⟩:=ts.updSame mem_putM
                simp only [hcm.2] at up
                have hq':(putM CH.k cl { y with vs:=insV (ofQ Q (l[i]).key) (verW s l[i]) }).map CH.p=stpA s (cl.map CH.p) l[i]:=by
                  rw [hstp,←hcm.2]
                  exact (setQ_put cl ⟨y.k,y.b,_⟩).symm
                have hl2:=(hleft.trans (.set (o:=HObj.cells [chK (insV (ofQ Q (l[i]).key) (verW s l[i]))]) (tg.own.2.2 y hcm.1))).trans (.set (o := .map es cc) tg.own.2.1)
                simp only [verc,verW] at h6' a0 up tu hl2 hq'
                simp only [stc] at h6' ⊢
                simp only [stc,A_,simprocAttr,ne_eq,(Uz1 _).1,CHK_,Nat.reduceBEq]
                refine h6' _ hcx (by rw [hvx]; exact ok.1) (by rw [hvx]; exact ok.2.1) ?_
                simp only [stc,A_,simprocAttr,ne_eq,(Uz1 _).1,CHK_,Nat.reduceBEq,a0,up,hw]
                exact ih (i + 1,_,Ox) _ _ _ (by show l.length - (i + 1) < l.length - i; omega) ⟨by show i + 1≤l.length; omega,hl2,_,⟨hm,_,tu,hq'⟩,hfold,hsame'⟩ rfl tk2 rfl
              · rw [ofQ_none hn] at hput hvx
                have h6':=h6 Hx.length [] (verW s l[i]) (S ++ [stc s,wc l[i]]) (Hx ++ [HObj.cells [.s .nilS]])
                rw [hput] at h6'
                have hset:∀o:HObj,(Hx ++ [HObj.cells [.s .nilS]]).set Hx.length o=Hx ++ [o]:=fun o=>by simp
                simp only [hset] at h6'
                have tn:=tg.app (G:=[.cells [chK (insV (ofQ Q (l[i]).key) (verW s l[i]))]])
                have a0:=tn.at0
                have hbo:Hx.length∉Ox:=fun q=>by have:=tg.low _ q; omega
                obtain ⟨es,cc,up,tu⟩:=tn.addc hn (b:=Hx.length) (vs:=insV (ofQ Q (l[i]).key) (verW s l[i])) (by simp) hbo hch (S:=S)
                have hq':(putM CH.k cl ⟨(l[i]).key,Hx.length,insV (ofQ Q (l[i]).key) (verW s l[i])⟩).map CH.p=stpA s (cl.map CH.p) l[i]:=by
                  rw [hstp]
                  exact (setQ_put cl ⟨_,_,_⟩).symm
                have hl2:Left H ((Hx ++ [HObj.cells [chK (insV (ofQ Q (l[i]).key) (verW s l[i]))]]).set hm (.map es cc)) O (Ox ++ [Hx.length]):=hleft.trans ⟨KeepF.app.trans (.set tg.own.2.1),fun i hi=>by
                  rcases List.mem_append.1 hi with hi | hi
                  · exact .inl hi
                  · exact .inr (by simp at hi; omega)⟩
                simp only [verc,verW] at h6' a0 up tu hl2 hq'
                simp only [stc] at h6' ⊢
                simp only [stc,A_,simprocAttr,ne_eq,(Uz1 _).1,CHK_,Nat.reduceBEq]
                refine h6' _ (by simp [chK]) (by rw [hvx]; exact ok.1) (by simp) ?_
                simp only [stc,A_,simprocAttr,ne_eq,(Uz1 _).1,CHK_,Nat.reduceBEq,a0,up,hw]
                exact ih (i + 1,_,Ox ++ [Hx.length]) _ _ _ (by show l.length - (i + 1) < l.length - i; omega) ⟨by show i + 1≤l.length; omega,hl2,_,⟨hm,_,tu,hq'⟩,hfold,hsame'⟩ rfl tk2 rfl
            · have hlt:¬((i:Int) < (l.length:Int)):=by omega
              rw [List.drop_of_length_le (by omega),List.foldl_nil] at hfold
              rw [hfold] at hK
              simp only [A_,simprocAttr,ne_eq,(Uz1 _).1,CHK_,Nat.reduceBEq,hlt]
              exact hK _ _ tx hleft
end Go.AM
namespace Go.AM
open Go
set_option maxRecDepth 20000
theorem bears {P:Program} {f:FuncId} {F B:Func} (h:P.funcs[f]? = some F) (hn:(F.name == "runtime.NumGoroutine")=false) (he:F={ B with name:=F.name }):Proofs.Bears P f B:=⟨F.name,hn,h.trans (congrArg some he)⟩
theorem scalars_bs:∀l:List UInt8,scalars (bs l)=some (l.map fun b=>Value.int .u8 b.toNat)
  | []=>rfl
  | x :: l=>by show (scalars (bs l)).map _=_; rw [scalars_bs l]; rfl
theorem kA_enc:EncK 16 kA:=fun x=>⟨bs x.b,_,rfl,by simp [kc_length],scalars_bs x.b⟩
end Go.AM
namespace Go.AM
open Go
open AV renaming undef → uu
set_option maxRecDepth 20000
def ltKc (x y:Key):Bool:=decide (cmpK x y < 0)
theorem swo_Kc:Sort.SWO ltKc:=by
  refine ⟨fun x=>decide_eq_false (by have:=cmp_flip x x; omega),fun x y z h1 h2 => ?_,fun x y z h1 h2 => ?_⟩
  · have h1:cmpK x y < 0:=of_decide_eq_true h1
    have h2:cmpK y z < 0:=of_decide_eq_true h2
    exact decide_eq_true (cmp_lt h1 (by omega))
  · have h1:¬(cmpK x y < 0):=of_decide_eq_false h1
    have h2:¬(cmpK y z < 0):=of_decide_eq_false h2
    have q1:=cmp_flip x y
    have q2:=cmp_flip y z
    have q3:=cmp_flip x z
    have:=cmp_le (a:=z) (b:=y) (c:=x) (by omega) (by omega)
    exact decide_eq_false (by omega)
def SortFSKc (C:CallW) (k f:FuncId):Prop:=∀(n:Nat) (d:Array Key) (S:List (List AV)) (H:List HObj) (K:AV→St→Prop),S[n]? = some (flat kA d)→d.size≤2305843009213693952→(∀R,Sort.PermIn 0 d.size d R→Sort.SortedIn ltKc 0 d.size R→K (.tup []) ⟨S.set n (flat kA R),H⟩)→C (.fn f) [.row (.stk n) 0 d.size d.size,.fn (.func k) [] []] ⟨S,H⟩ K
def SortFNKc (C:CallW) (f:FuncId):Prop:=∀(g:FuncId) (S:List (List AV)) (H:List HObj) (K:AV→St→Prop),K (.tup []) ⟨S,H⟩→C (.fn f) [.s .nilS,.fn (.func g) [] []] ⟨S,H⟩ K
theorem kit_SortFSKc {P : Program} {C : CallW} (h : KitW P C) {ρ : Shelf.Ren} (L : Proofs.SlLaysF0.n6 P ρ) (ha : ∀ w, (Go.isAgg (ρ.t 24)).run P w = .ok true w) (hz : ∀ w, (Go.sizeOf (ρ.t 24)).run P w = .ok 16 w) {k : FuncId} (hk : KCmp C k) (hb : hasBody P k = true) :
    SortFSKc C k (ρ.f 6)∧SortFNKc C (ρ.f 6) :=
  ⟨fun n d S H K hS hd hK=>h.srt ρ L 16 ha hz Key inferInstance kA cmpK k n d S H K kA_enc swo_Kc hb (fun x y=>hk x y [] [] _ rfl) hS hd hK,
    fun g S H K hK=>h.srtN ρ L _ _ K hK⟩
theorem kc_cell {k:Key} (c:AV) (h:c∈bs k.b):c.isCell=true:=by
  unfold bs at h
  obtain ⟨x,_,rfl⟩:=List.mem_map.1 h
  rfl
def KeysSKc (C:CallW) (f g:FuncId):Prop:=∀(hm:Nat) S H (K:AV→St→Prop),K (.fn (.func g) [] [.ptr (.heap H.length) 0]) ⟨S,H ++ [.cells [.map hm]]⟩→C (.fn f) [.map hm] ⟨S,H⟩ K
theorem maps_KeysKc_spec {C:CallW} (P:Program) {c:Nat→FuncId}:∀(hm:Nat) S H (K:AV→St→Prop),K (.fn (.func (c 0)) [] [.ptr (.heap H.length) 0]) ⟨S,H ++ [.cells [.map hm]]⟩→runL C P (Cz1k c) [.map hm] ⟨S,H⟩ K:=by
  intro hm S H K hK
  simp only [Cz1k,A_,simprocAttr,ne_eq]
  exact hK
def KeysItKc (C:CallW) (g:FuncId):Prop:=∀(G:List Key→List HObj) (N h bx hm c:Nat) (es:List Entry) (x:Entry→Key) (S:List (List AV)) (K:AV→St→Prop),(∀acc,(G acc).length=N)→(∀acc,(G acc)[bx]? = some (.cells [.map hm]))→(∀acc,(G acc)[hm]? = some (.map es c))→(es.map (·.born)).Nodup→(∀e∈es,e.born < c)→(∀e∈es,e.key=kA (x e)) →
  (∀acc v it S' (K':AV→St→Prop),acc.length < es.length→K' (.bool true) ⟨S',G (acc ++ [v]) ++ [it]⟩→C (.yield h) [.agg (bs v.b)] ⟨S',G acc ++ [it]⟩ K')→(∀acc it,acc.Perm (es.map x)→K (.tup []) ⟨S,G acc ++ [it]⟩)→C (.fn g) [.yield h,.ptr (.heap bx) 0] ⟨S,G []⟩ K
set_option maxHeartbeats 1600000 in
theorem maps_KeysKc1_spec {C:CallW} (hC:LeC C C) (P:Program):∀(G:List Key→List HObj) (N h bx hm c:Nat) (es:List Entry) (x:Entry→Key) (S:List (List AV)) (K:AV→St→Prop),(∀acc,(G acc).length=N)→(∀acc,(G acc)[bx]? = some (.cells [.map hm]))→(∀acc,(G acc)[hm]? = some (.map es c))→(es.map (·.born)).Nodup→(∀e∈es,e.born < c)→(∀e∈es,e.key=kA (x e)) →
  (∀acc v it S' (K':AV→St→Prop),acc.length < es.length→K' (.bool true) ⟨S',G (acc ++ [v]) ++ [it]⟩→C (.yield h) [.agg (bs v.b)] ⟨S',G acc ++ [it]⟩ K')→(∀acc it,acc.Perm (es.map x)→K (.tup []) ⟨S,G acc ++ [it]⟩)→runL C P Cze [.yield h,.ptr (.heap bx) 0] ⟨S,G []⟩ K:=by
  intro G N h bx hm c es x S K hN hbx hmp hnd hlt hkey hy hK
  have b0:=hbx []
  simp only [Cze,A_,simprocAttr,ne_eq,Uzh.1,b0]
  rw [opS_rng rfl (hmp [])]
  simp only [Cze,A_,simprocAttr,ne_eq,Uzh.1,hN]
  refine loop_rule hC (α:=List Entry) (fun vs=>es.length - vs.length) (fun vs=>[.yield h,uu,uu,uu,uu,.ptr (.heap N) 0,uu,uu,uu,uu,uu,uu,uu,uu]) (fun _=>S) (fun vs=>G (vs.map x) ++ [.iter ⟨some hm,c,vs.map (·.born),c⟩]) (fun vs=>(vs.map (·.born)).Nodup∧∀e∈vs,e∈es) [] ⟨.nil,fun e h=>by cases h⟩ (by simp [keep,zm]) (by first | rw [List.take_of_length_le (Nat.le_refl _)] | simp) rfl (fun a _=>by simp [AV.under,AV.under.go]) ?_
  rintro vs ⟨hvn,hvs⟩ ih
  have hit:(G (vs.map x) ++ [.iter ⟨some hm,c,vs.map (·.born),c⟩])[N]? = some (.iter ⟨some hm,c,vs.map (·.born),c⟩):=by rw [←hN (vs.map x)]; simp
  have hmm:∀o,(G (vs.map x) ++ [o])[hm]? = some (.map es c):=fun o=>happ (hmp _)
  simp only [Cze,A_,simprocAttr,ne_eq,Uzh.1]
  rw [opS_nxt rfl hit rfl (hmm _)]
  refine ⟨?_,fun hall => ?_,fun e he hns => ?_⟩
  · cases vs with
    | nil=>exact .inl rfl
    | cons v vs=>exact .inr (.inr ⟨v,hvs v List.mem_cons_self,hlt v (hvs v List.mem_cons_self)⟩)
  · have hp:vs.Perm es:=by
      refine (List.perm_ext_iff_of_nodup ?_ ?_).2 fun e=>⟨hvs e,fun he => ?_⟩
      · exact List.Pairwise.of_map (·.born) (fun a b h e=>h (by rw [e])) hvn
      · exact List.Pairwise.of_map (·.born) (fun a b h e=>h (by rw [e])) hnd
      · rcases hall e he with h1 | h1
        · rw [List.mem_map] at h1
          obtain ⟨v,hv,hb⟩:=h1
          have q1:=born_find hnd (hvs v hv)
          have q2:=born_find hnd he
          rw [hb,q2] at q1
          rw [Option.some.inj q1]; exact hv
        · have:=hlt e he
          exact absurd h1 (by dsimp only; omega)
    simp only [Cze,A_,simprocAttr,ne_eq,Uzh.1]
    exact hK _ _ (hp.map x)
  · have hk:=hkey e he
    have hset:∀o o':HObj,(G (vs.map x) ++ [o]).set N o'=G (vs.map x) ++ [o']:=fun o o'=>by rw [←hN (vs.map x)]; simp
    have hit2:(G (vs.map x) ++ [.iter ⟨some hm,c,vs.map (·.born) ++ [e.born],c⟩])[N]? = some (.iter ⟨some hm,c,vs.map (·.born) ++ [e.born],c⟩):=by rw [←hN (vs.map x)]; simp
    dsimp only
    rw [hset]
    have hll:vs.length < es.length:=by
      have hb:((vs ++ [e]).map (·.born)).Nodup:=by
        rw [List.map_append,List.nodup_append]
        exact ⟨hvn,by simp,fun a ha b hb=>by
          have:b=e.born:=by simpa using hb
          subst this
          exact fun e2=>hns (e2▸ha)⟩
      have hnd2:(vs ++ [e]).Nodup:=List.Pairwise.of_map (·.born) (fun a b h e=>h (by rw [e])) hb
      have h1:(vs ++ [e]).length≤es.length:=hnd2.length_le_of_subset fun z hz=>by
        rcases List.mem_append.1 hz with hz | hz
        · exact hvs z hz
        · have:z=e:=by simpa using hz
          rw [this]; exact he
      simp at h1; omega
    simp only [Cze,A_,simprocAttr,ne_eq,Uzh.1]
    rw [opS_ent rfl hit2 rfl (hmm _) (b:=e.born) (by simp) rfl (born_find hnd he),hk]
    simp only [kA,Cze,A_,simprocAttr,ne_eq,Uzh.1,WR_]
    refine hy _ (x e) _ _ _ (by simpa using hll) ?_
    simp only [Cze,A_,simprocAttr,ne_eq,Uzh.1]
    refine ih (vs ++ [e]) _ _ _ (by simp; omega) ⟨?_,fun z hz => ?_⟩ (by simp [keep,zm]) (by first | rw [List.take_of_length_le (Nat.le_refl _)] | simp) (by simp)
    · rw [List.map_append,List.nodup_append]
      exact ⟨hvn,by simp,fun a ha b hb=>by
        have:b=e.born:=by simpa using hb
        subst this
        exact fun e2=>hns (e2▸ha)⟩
    · rcases List.mem_append.1 hz with hz | hz
      · exact hvs z hz
      · have:z=e:=by simpa using hz
        rw [this]; exact he
def slKc (l:List Key):AV:=slG 16 (l.map kA)
theorem slKc_nil:slKc [] = .s .nilS:=rfl
theorem slKc_ne {l:List Key} (h:l≠[]):slKc l = .list .uniq 16 (l.map kA):=if_neg (by simpa using h)
theorem slKc_under {n:Nat} {l:List Key}:AV.under n (slKc l)=true:=slG_under
theorem app_slKc {e:ET} {l:List Key} {v:Key} {σ:St} (h1:e.c=16) (h2:e.bytes=16) (hl:l.length≤1000000):appendL e false (slKc l) (.list .full 16 [.agg (bs v.b)]) σ=some (slKc (l ++ [v]),σ):=by
  have h:=app_slG (e:=e) (es:=l.map kA) (a:=kA v) (σ:=σ) (under_bs _ _) (by rw [List.length_map,h2]; omega)
  rw [h1] at h
  unfold slKc
  rw [show (AV.agg (bs v.b))=kA v from rfl,h,List.map_append]; rfl
theorem load_keptKc {S:List (List AV)} {H G:List HObj} {l:List Key}:load1L true (.ptr (.heap H.length) 0) ⟨S,H ++ .cells [slKc l] :: G⟩=some (slKc l,⟨S,H ++ .cells [(slKc l).left] :: G⟩):=by
  have hb:boxOf ⟨S,H ++ .cells [slKc l] :: G⟩ (.heap H.length)=some [slKc l]:=by simp [boxOf]
  simp only [load1L,hb,Option.bind_some]
  simp [splice,setBox]
theorem store_keptKc {S:List (List AV)} {H G:List HObj} {a:AV} {l:List Key} (hne:l≠[]):storeUL (.ptr (.heap H.length) 0) (slKc l) ⟨S,H ++ .cells [a] :: G⟩=some ⟨S,H ++ .cells [slKc l] :: G⟩:=by
  have hb:boxOf ⟨S,H ++ .cells [a] :: G⟩ (.heap H.length)=some [a]:=by simp [boxOf]
  rw [slKc_ne hne]
  simp [storeUL,AV.fit,AV.kept,AV.isCell,hb,writeCells,mayHold,AV.under.go,AV.under,splice,setBox]
structure MapKc (H:List HObj) (bx hm c:Nat) (es:List Entry) (x:Entry→Key):Prop where
  box:H[bx]? = some (.cells [.map hm])
  map:H[hm]? = some (.map es c)
  nd:(es.map (·.born)).Nodup
  lt:∀e∈es,e.born < c
  val:∀e∈es,e.key=kA (x e)
  len:es.length≤1000000
def AppSeqKcS (C:CallW) (f g:FuncId):Prop:=∀(bx hm c:Nat) (es:List Entry) (x:Entry→Key) S H (K:AV→St→Prop),MapKc H bx hm c es x→(∀acc G,acc.Perm (es.map x)→K (slKc acc) ⟨S,H ++ G⟩)→C (.fn f) [.s .nilS,.fn (.func g) [] [.ptr (.heap bx) 0]] ⟨S,H⟩ K
set_option maxHeartbeats 1600000 in
theorem AppendSeq_specKc {C:CallW} (hC:LeC C C) (P:Program) {c:Nat→FuncId} {as1 bd1:Code} {g:FuncId} (h1:KeysItKc C g) (hB:hasBody P g=true) (hR:RoundOK C P (c 0) as1 bd1 (Czk).code (Czl).code):∀(bx hm cc:Nat) (es:List Entry) (x:Entry→Key) S H (K:AV→St→Prop),MapKc H bx hm cc es x→(∀acc G,acc.Perm (es.map x)→K (slKc acc) ⟨S,H ++ G⟩)→runL C P (Czs c as1 bd1) [.s .nilS,.fn (.func g) [] [.ptr (.heap bx) 0]] ⟨S,H⟩ K:=by
  intro bx hm cc es x S H K hM hK
  simp only [Czs,A_,simprocAttr,ne_eq,(Uz12 _ _ _).1,hB]
  refine h1 (fun acc=>H ++ [.cells [slKc acc],.loop ⟨c 0,[.s .nilS,.fn (.func g) [] [.ptr (.heap bx) 0],.ptr (.heap H.length) 0,.undef,.s .nilS,.undef,.fn (.func g) [] [.ptr (.heap bx) 0],uu,uu,uu,uu,uu,uu],[7],as1,bd1,true,none⟩]) (H.length + 2) (H.length + 1) bx hm cc es x S _ (fun acc=>by simp) (fun acc=>happ hM.box) (fun acc=>happ hM.map) hM.nd hM.lt hM.val (fun acc v it S' K' hacc hK' => ?_) (fun acc it hp => ?_)
  · have ha:∀(e:ET) (σ:St),e.c=16→e.bytes=16→appendL e false (slKc acc) (.list .full 16 [.agg (bs v.b)]) σ=some (slKc (acc ++ [v]),σ):=fun e σ h1 h2=>app_slKc h1 h2 (by have:=hM.len; omega)
    have st:=fun {S:List (List AV)} {a:AV} {G:List HObj}=>store_keptKc (S:=S) (H:=H) (G:=G) (a:=a) (l:=acc ++ [v]) (by simp)
    have hne:=slKc_ne (l:=acc ++ [v]) (by simp)
    rw [List.append_assoc]
    refine hR _ _ _ _ _ _ _ (by rw [app_get]; rfl) rfl ?_
    rw [List.append_assoc] at hK'
    rw [hne] at ha st hK'
    simp only [Czk,Czl,A_,simprocAttr,ne_eq,(Uz12 _ _ _).1,WR_,load_keptKc,ha,st]
    exact hK'
  · rw [List.append_assoc]
    simp only [Czs,A_,simprocAttr,ne_eq,(Uz12 _ _ _).1,load_keptKc]
    exact ⟨slKc_under,hK _ _ hp⟩
def CollKcS (C:CallW) (f g:FuncId):Prop:=∀(bx hm c:Nat) (es:List Entry) (x:Entry→Key) S H (K:AV→St→Prop),MapKc H bx hm c es x→(∀acc G,acc.Perm (es.map x)→K (slKc acc) ⟨S,H ++ G⟩)→C (.fn f) [.fn (.func g) [] [.ptr (.heap bx) 0]] ⟨S,H⟩ K
theorem Collect_specKc {C:CallW} (P:Program) {c:Nat→FuncId} {g:FuncId} (h0:AppSeqKcS C (c 0) g):∀(bx hm cc:Nat) (es:List Entry) (x:Entry→Key) S H (K:AV→St→Prop),MapKc H bx hm cc es x→(∀acc G,acc.Perm (es.map x)→K (slKc acc) ⟨S,H ++ G⟩)→runL C P (Czx c) [.fn (.func g) [] [.ptr (.heap bx) 0]] ⟨S,H⟩ K:=by
  intro bx hm cc es x S H K hM hK
  simp only [Czx,A_,simprocAttr,ne_eq,(Uz1r _).1]
  refine h0 bx hm cc es x S H _ hM fun acc G hp => ?_
  simp only [Czx,A_,simprocAttr,ne_eq,(Uz1r _).1]
  exact ⟨slKc_under,hK _ _ hp⟩
def arrKc (l:List Key):Array Key:=l.toArray
theorem flat_arrKc (l:List Key):(l.map kA).flatMap AV.cells=flat kA (arrKc l):=by
  unfold flat arrKc
  simp only [List.flatMap_map]
theorem thaw_slKc {fr:Fr} {t:Nat} {l:List Key} {S:List (List AV)} {H:List HObj} (hne:l≠[]) (h:fr.getD t .undef=slKc l):AM.thaw fr (.tmp t) ⟨S,H⟩=some (.row (.stk S.length) 0 l.length l.length,fr.set t (.row (.stk S.length) 0 l.length l.length),⟨S ++ [flat kA (arrKc l)],H⟩):=by
  unfold AM.thaw
  simp only [h,slKc_ne hne]
  rw [if_neg (by simp [hne]),flat_arrKc,newBox_stk (flat_low kA_EK _ _)]
  simp
theorem thaw_slKc0 {fr:Fr} {t:Nat} {σ:St} (h:fr.getD t .undef=slKc []):AM.thaw fr (.tmp t) σ=some (.s .nilS,fr,σ):=by
  unfold AM.thaw
  simp only [h]
  rfl
theorem group_kc {e:ET} (h1:e.c=16) (h2:e.ag=true):∀l:List Key,groupL e l.length (l.flatMap fun x=>(kA x).cells)=l.map kA
  | []=>rfl
  | x :: l=>by
    have hx:((kA x).cells).length=16:=kc_length x
    rw [List.length_cons,groupL,h1,List.flatMap_cons,List.take_left' hx,List.drop_left' hx,group_kc h1 h2 l]
    simp [packL,h2,kA,AV.cells]
theorem freeze_kc {e:ET} {S:List (List AV)} {H:List HObj} {n N:Nat} {d:Array Key} (h1:e.c=16) (h2:e.ag=true) (hS:S[n]? = some (flat kA d)):freezeL e (.row (.stk n) 0 d.size N) ⟨S,H⟩=some (.list .sh 16 (d.toList.map kA),⟨S.set n [],H⟩):=by
  have hfl:=flat_length kA_EK d
  have hlook:(flat kA d).map AV.look=flat kA d:=by
    unfold flat
    generalize d.toList=l
    induction l with
    | nil=>rfl
    | cons x l ih=>rw [List.flatMap_cons,List.map_append,ih]; congr 1; exact kA_EK.look x
  have hcell:(flat kA d).all AV.isCell=true:=by
    unfold flat
    generalize d.toList=l
    induction l with
    | nil=>rfl
    | cons x l ih =>
      rw [List.flatMap_cons,List.all_append,ih,Bool.and_true]
      exact List.all_eq_true.2 fun c hc=>kc_cell c hc
  have hg:=group_kc h1 h2 d.toList
  rw [Array.length_toList] at hg
  have htk:((flat kA d).drop 0).take (d.size * 16)=flat kA d:=by rw [List.drop_zero,List.take_of_length_le (by omega)]
  unfold freezeL
  simp only [h1,readCells,boxOf_stk,hS,Option.bind_some]
  rw [if_pos ⟨by omega,.inr (by rw [htk,hlook]; exact hcell)⟩]
  simp only [Option.bind_some,htk,hlook]
  rw [if_pos ⟨flat_low kA_EK _ _,by decide,by rw [h2]; rfl⟩]
  unfold flat
  rw [hg]
theorem sorted_kc {R:Array Key} {n:Nat} (hn:R.size=n) (hk:R.toList.Nodup) (h:Sort.SortedIn (ltKc) 0 n R):R.toList.Pairwise fun a b=>cmpK a b < 0:=by
  rw [List.pairwise_iff_getElem]
  intro i j hi hj hij
  have hj':j < R.size:=by simpa using hj
  have hi':i < R.size:=by simpa using hi
  have:=h i j (Nat.zero_le _) hij (by omega)
  rw [get_bang hj',get_bang hi'] at this
  have h1:¬(cmpK (R.toList[j]) (R.toList[i]) < 0):=of_decide_eq_false this
  have h2:=cmp_flip (R.toList[i]) (R.toList[j])
  have h3:cmpK (R.toList[i]) (R.toList[j])≠0:=by
    intro e
    have:=(cmpK_eq (R.toList[i]) (R.toList[j])).1 e
    have q:=List.pairwise_iff_getElem.1 hk i j (by simpa using hi) (by simpa using hj) hij
    exact q this
  omega
theorem sorted_permKc {R:Array Key} {l:List Key} (h:Sort.PermIn 0 l.length (arrKc l) R):R.toList.Perm l:=by
  have hsz:R.size=l.length:=h.1
  have:=h.2.2
  rw [←hsz,Array.extract_size,hsz] at this
  rw [show l.length=(arrKc l).size from rfl,Array.extract_size] at this
  exact this
def SortedKcS (C:CallW) (f g k:FuncId):Prop:=∀(bx hm c:Nat) (es:List Entry) (x:Entry→Key) S H (K:AV→St→Prop),MapKc H bx hm c es x→(es.map x).Nodup→(∀(L:List Key) (G:List HObj),L.Perm (es.map x)→L.Pairwise (fun a b=>cmpK a b < 0)→K (lstK L) ⟨S,H ++ G⟩)→C (.fn f) [.fn (.func g) [] [.ptr (.heap bx) 0],.fn (.func k) [] []] ⟨S,H⟩ K
set_option maxHeartbeats 8000000 in
theorem SortedFunc_specKc {C:CallW} (P:Program) {c:Nat→FuncId} {g k:FuncId} (h0:CollKcS C (c 0) g) (h1:SortFSKc C k (c 1)) (h1n:SortFNKc C (c 1)):∀(bx hm cc:Nat) (es:List Entry) (x:Entry→Key) S H (K:AV→St→Prop),MapKc H bx hm cc es x→(es.map x).Nodup→(∀(L:List Key) (G:List HObj),L.Perm (es.map x)→L.Pairwise (fun a b=>cmpK a b < 0)→K (lstK L) ⟨S,H ++ G⟩)→runL C P (Cza c) [.fn (.func g) [] [.ptr (.heap bx) 0],.fn (.func k) [] []] ⟨S,H⟩ (WkK K):=by
  intro bx hm cc es x S H K hM hnd hK
  have hfz:∀(e:ET) (σ:St),freezeL e (.s .nilS) σ=some (.s .nilS,σ):=fun _ _=>rfl
  simp only [Cza,A_,simprocAttr,ne_eq,(Uzf _).1]
  refine h0 bx hm cc es x S H _ hM fun acc G hp => ?_
  have hal:acc.length≤1000000:=by have:=hp.length_eq; rw [List.length_map] at this; have:=hM.len; omega
  by_cases e:acc=[]
  · subst e
    simp only [Cza,A_,simprocAttr,ne_eq,(Uzf _).1]
    rw [thaw_slKc0 rfl]
    simp only [Cza,A_,simprocAttr,ne_eq,(Uzf _).1]
    refine h1n _ _ _ _ ?_
    simp only [Cza,A_,simprocAttr,ne_eq,(Uzf _).1,slKc_nil,hfz]
    exact ⟨_,.inr (.nilS (by omega) .nil),hK [] G hp .nil⟩
  · simp only [Cza,A_,simprocAttr,ne_eq,(Uzf _).1]
    rw [thaw_slKc e rfl]
    have hS1:(S ++ [flat kA (arrKc acc)])[S.length]? = some (flat kA (arrKc acc)):=by simp
    simp only [Cza,A_,simprocAttr,ne_eq,(Uzf _).1,List.set_cons_zero,List.set_cons_succ]
    refine h1 S.length (arrKc acc) _ _ _ hS1 (by show acc.length≤_; omega) fun R hR1 hR2 => ?_
    have hRs:R.size=acc.length:=hR1.1
    have hset:∀x y:List AV,(S ++ [x]).set S.length y=S ++ [y]:=fun x y=>by simp
    rw [hset]
    have hS2:(S ++ [flat kA R])[S.length]? = some (flat kA R):=by simp
    have hRp:=(sorted_permKc hR1).trans hp
    have hf:∀{e:ET},e.c=16→e.ag=true→freezeL e (.row (.stk S.length) 0 acc.length acc.length) ⟨S ++ [flat kA R],H ++ G⟩=some (.list .sh 16 (R.toList.map kA),⟨S ++ [[]],H ++ G⟩):=fun h1 h2=>by
      rw [←hRs,freeze_kc (H:=H ++ G) h1 h2 hS2,hset]
    simp only [Cza,A_,simprocAttr,ne_eq,(Uzf _).1,hf]
    exact ⟨_,.inl rfl,hK R.toList G hRp (sorted_kc hRs (hRp.nodup_iff.2 hnd) hR2)⟩
def keysQ (Q:Sto):List Key:=(Q.map Prod.fst).mergeSort fun a b=>decide (cmpK a b≤0)
theorem cmpK_refl (a:Key):cmpK a a=0:=(cmpK_eq a a).2 rfl
theorem keysQ_perm (Q:Sto):(keysQ Q).Perm (Q.map Prod.fst):=List.mergeSort_perm _ _
theorem keysQ_le (Q:Sto):(keysQ Q).Pairwise fun a b=>cmpK a b≤0:=by
  have:=List.pairwise_mergeSort (le:=fun a b:Key=>decide (cmpK a b≤0)) (fun a b c h1 h2=>by
    have h1:cmpK a b≤0:=of_decide_eq_true h1
    have h2:cmpK b c≤0:=of_decide_eq_true h2
    exact decide_eq_true (cmp_le h1 h2)) (fun a b=>by
    have:=cmp_flip a b
    by_cases h:cmpK a b≤0
    · simp [h]
    · simp only [h,decide_false,Bool.false_or,decide_eq_true_eq]; omega) (Q.map Prod.fst)
  exact this.imp fun h=>of_decide_eq_true h
theorem sorted_same:∀{L M:List Key},L.Perm M→L.Pairwise (fun a b=>cmpK a b≤0)→M.Pairwise (fun a b=>cmpK a b≤0)→L=M
  | [],M,hp,_,_=>hp.symm.eq_nil.symm
  | a :: L,[],hp,_,_=>hp.eq_nil
  | a :: L,b :: M,hp,h1,h2=>by
    rw [List.pairwise_cons] at h1 h2
    have hab:a=b:=by
      rcases List.mem_cons.1 (hp.subset List.mem_cons_self) with e | e
      · exact e
      · rcases List.mem_cons.1 (hp.symm.subset List.mem_cons_self) with e' | e'
        · exact e'.symm
        · have q1:=h2.1 a e
          have q2:=h1.1 b e'
          have:=cmp_flip a b
          exact (cmpK_eq a b).1 (by omega)
    subst hab
    rw [sorted_same (hp.cons_inv) h1.2 h2.2]
theorem keysQ_eq {L:List Key} {Q:Sto} (h1:L.Perm (Q.map Prod.fst)) (h2:L.Pairwise fun a b=>cmpK a b < 0):L=keysQ Q:=sorted_same (h1.trans (keysQ_perm Q).symm) (h2.imp fun h=>Int.le_of_lt h) (keysQ_le Q)
def StKeysS (C:CallW) (f:FuncId):Prop:=∀(h:Nat) (Q:Sto) (O:List Nat) S H (K:AV→St→Prop),StA H O h Q→Q.length≤1000→(∀G,K (lstK (keysQ Q)) ⟨S,H ++ G⟩)→C (.fn f) [.ptr (.heap h) 0] ⟨S,H⟩ K
theorem kA_in {x y:Key} (h:kA x=kA y):x=y:=by
  unfold kA at h
  injection h with h
  exact Key.ext' (bs_in h)
theorem store_Keys_spec {C:CallW} (P:Program) {c:Nat→FuncId} {g:FuncId} (h0:KeysSKc C (c 0) g) (h1:SortedKcS C (c 1) g (c 2)):∀(h:Nat) (Q:Sto) (O:List Nat) S H (K:AV→St→Prop),StA H O h Q→Q.length≤1000→(∀G,K (lstK (keysQ Q)) ⟨S,H ++ G⟩)→runL C P (Czv c) [.ptr (.heap h) 0] ⟨S,H⟩ K:=by
  rintro h _ O S H K ⟨hm,l,t,rfl⟩ hq hK
  have a0:=t.at0
  obtain ⟨es,cc,a,g⟩:=t.map
  have hrel:=g.rel
  unfold RelM at hrel
  have hlen:es.length=l.length:=by have:=congrArg List.length hrel; simpa using this
  have hget:∀j (h1:j < es.length) (h2:j < l.length),es[j].key=kA l[j].k:=by
    intro j h1 h2
    have:=congrArg (fun z=>z[j]?) hrel
    simp [h1,h2] at this
    exact this.1
  have hx:∀e:Entry,∃w:Key,e∈es→e.key=kA w:=fun e=>by
    by_cases he:e∈es
    · obtain ⟨j,hj,rfl⟩:=List.mem_iff_getElem.1 he
      exact ⟨_,fun _=>hget j hj (by omega)⟩
    · exact ⟨key0,fun q=>absurd q he⟩
  obtain ⟨x,hx⟩:∃x:Entry→Key,∀e∈es,e.key=kA (x e):=⟨fun e=>Classical.choose (hx e),fun e he=>Classical.choose_spec (hx e) he⟩
  have hmap:es.map x=l.map CH.k:=by
    refine List.ext_getElem (by simpa using hlen) fun j h1 h2 => ?_
    have h1':j < es.length:=by simpa using h1
    rw [List.getElem_map,List.getElem_map]
    exact kA_in ((hx _ (List.getElem_mem h1')).symm.trans (hget j h1' (by omega)))
  have hkk:(l.map CH.p).map Prod.fst=l.map CH.k:=by rw [List.map_map]; rfl
  simp only [Czv,A_,simprocAttr,ne_eq,(Uz1f _).1,CHK_,Nat.reduceBEq,a0]
  refine h0 hm _ _ _ ?_
  simp only [Czv,A_,simprocAttr,ne_eq,(Uz1f _).1]
  rw [List.length_map] at hq
  refine h1 _ hm cc es x _ _ _ ⟨by simp,happ a,g.nd,g.lt,hx,by omega⟩ (by rw [hmap]; exact t.nk) fun L G hp hs => ?_
  have hL:=keysQ_eq (Q:=l.map CH.p) (L:=L) (by rw [hkk,←hmap]; exact hp) hs
  have hK:=hK (.cells [.map hm] :: G)
  rw [←hL] at hK
  simp only [lstK] at hK ⊢
  simp only [Czv,A_,simprocAttr,ne_eq,(Uz1f _).1]
  exact hK
end Go.AM
namespace Go.AM
open Go
open AV renaming undef → uu
set_option maxRecDepth 20000
def EqItS (C:CallW) (f:FuncId):Prop:=∀(a b:List It) S H (K:AV→St→Prop),a.length≤9223372036854775807→b.length≤9223372036854775807→K (.bool (decide (a=b))) ⟨S,H⟩→C (.fn f) [lstIt a,lstIt b] ⟨S,H⟩ K
theorem ref10_Items_spec {C:CallW} (hC:LeC C C) (P:Program):∀(a b:List It) S H (K:AV→St→Prop),a.length≤9223372036854775807→b.length≤9223372036854775807→K (.bool (decide (a=b))) ⟨S,H⟩→runL C P Czt [lstIt a,lstIt b] ⟨S,H⟩ K:=by
  intro a b S H K ha hb hK
  by_cases hl:a.length=b.length
  case neg =>
    have hl':¬((a.length:Int)=(b.length:Int)):=by omega
    rw [decide_eq_false (fun e=>hl (by rw [e]))] at hK
    simp only [lstIt,Czt,A_,simprocAttr,ne_eq,Uzj.1,hl']
    exact hK
  have hl':=eq_true (show ((a.length:Int)=(b.length:Int)) by omega)
  simp only [lstIt,Czt,A_,simprocAttr,ne_eq,Uzj.1,hl']
  refine loop_rule hC (α:=Nat) (fun i=>a.length - i) (fun i=>[.list .sh 17 (a.map itA),.list .sh 17 (b.map itA),uu,uu,uu,.s (.int .i64 i),uu,uu,uu,uu,uu,uu,uu,uu,uu,uu,uu,uu,uu,uu,uu,uu,uu,uu,uu,uu]) (fun _=>S) (fun _=>H) (fun i=>i≤a.length∧decide (a=b)=decide (a.drop i=b.drop i)) 0 ⟨by simp,by simp⟩ rfl (by simp) rfl (fun a _=>by simp [AV.under,AV.under.go]) ?_
  rintro i ⟨hi,hinv⟩ ih
  by_cases h16:i < a.length
  · have hlt:((i:Int) < (a.length:Int)):=by omega
    have h16':i < b.length:=by omega
    have hw:IntKind.i64.wrap ((i:Int) + 1)=(i:Int) + 1:=wrap_i64 (by omega) (by omega)
    rw [List.drop_eq_getElem_cons h16,List.drop_eq_getElem_cons h16'] at hinv
    by_cases he:a[i]=b[i]
    · have he':=eq_true he
      rw [he] at hinv
      simp only [List.cons.injEq,true_and] at hinv
      simp only [A_,simprocAttr,ne_eq,Uzj.1,IT_,hlt,h16,h16',he',hw]
      exact ih (i + 1) _ _ _ (by omega) ⟨by omega,hinv⟩ rfl (by simp) rfl
    · simp only [List.cons.injEq,he,false_and,decide_false] at hinv
      rw [hinv] at hK
      simp only [A_,simprocAttr,ne_eq,Uzj.1,IT_,hlt,h16,h16',he]
      exact hK
  · have hlt:¬((i:Int) < (a.length:Int)):=by omega
    rw [List.drop_of_length_le (by omega),List.drop_of_length_le (by omega),decide_eq_true rfl] at hinv
    rw [hinv] at hK
    simp only [A_,simprocAttr,ne_eq,Uzj.1,hlt]
    exact hK
end Go.AM
namespace Go.AM
open Go
open AV renaming undef → uu
set_option maxRecDepth 20000
set_option maxHeartbeats 1000000 in
theorem key_Within_spec {C:CallW} (P:Program) {c:Nat→FuncId} (hf:KCmp C (c 0)):∀(k a b:Key) S H K,K (.bool (withinK k a b)) ⟨S,H⟩→runL C P (Cz13 c) [.agg (bs k.b),.agg (bs a.b),.agg (bs b.b)] ⟨S,H⟩ K:=by
  intro k a b S H K hK
  simp only [Cz13,RUN_,(Uz1o _).1,FR_,simprocAttr,if_true,if_false,ite_true,ite_false,ne_eq,eq_self,OPK_,KEY_]
  refine hf _ _ _ _ _ ?_
  by_cases h1:(0:Int)≤Lib.compareBytes k.b a.b
  · by_cases h2:b=key0
    · have e:withinK k a b=true:=by simp [withinK,cmpK,h1,h2]
      rw [e] at hK
      simp only [Cz13,RUN_,(Uz1o _).1,FR_,simprocAttr,if_true,if_false,ite_true,ite_false,ne_eq,eq_self,OPK_,KEY_,h1,h2]
      exact hK
    · have e:withinK k a b=decide (Lib.compareBytes k.b b.b < 0):=by unfold withinK cmpK; rw [decide_eq_true h1,decide_eq_false h2]; rfl
      rw [e] at hK
      simp only [Cz13,RUN_,(Uz1o _).1,FR_,simprocAttr,if_true,if_false,ite_true,ite_false,ne_eq,eq_self,OPK_,KEY_,h1,h2]
      refine hf _ _ _ _ _ ?_
      simp only [Cz13,RUN_,(Uz1o _).1,FR_,simprocAttr,if_true,if_false,ite_true,ite_false,ne_eq,eq_self,OPK_,KEY_,h1,h2]
      exact hK
  · have e:withinK k a b=false:=by simp [withinK,cmpK,h1]
    rw [e] at hK
    simp only [Cz13,RUN_,(Uz1o _).1,FR_,simprocAttr,if_true,if_false,ite_true,ite_false,ne_eq,eq_self,OPK_,KEY_,h1]
    exact hK
def scanF (Q:Sto) (a b:Key) (s:Stp) (m:Int):List It→List Key→List It
  | acc,[]=>acc
  | acc,k :: r=>if m≤(acc.length:Int) then acc else if withinK k a b=false then scanF Q a b s m acc r else if (getS Q k s).2=true then scanF Q a b s m (acc ++ [⟨k,(getS Q k s).1⟩]) r else scanF Q a b s m acc r
def scanQ (Q:Sto) (a b:Key) (s:Stp) (m:Int):List It:=scanF Q a b s m [] (keysQ Q)
def ScanS (C:CallW) (f:FuncId):Prop:=∀(h:Nat) (Q:Sto) (O:List Nat) (a b:Key) (s:Stp) (m:Int) S H (K:AV→St→Prop),StA H O h Q→Q.length≤1000→(∀G,K (lstIt (scanQ Q a b s m)) ⟨S,H ++ G⟩)→C (.fn f) [.ptr (.heap h) 0,.agg (bs a.b),.agg (bs b.b),.agg (stc s),.s (.int .i64 m)] ⟨S,H⟩ K
def ScV (acc:List It) (v:AV):Prop:=(v = .s .nilS∧acc=[])∨v = .list .uniq 17 (acc.map itA)∨v = .list .own 17 (acc.map itA)
theorem ScV.und {acc:List It} {v:AV} (h:ScV acc v) {n:Nat}:AV.under n v=true:=by rcases h with ⟨rfl,_⟩ | rfl | rfl <;> rfl
theorem ScV.wk {acc:List It} {v:AV} (h:ScV acc v):WkL [v.sh] [lstIt acc]:=by
  rcases h with ⟨rfl,rfl⟩ | rfl | rfl
  · exact .nilS (by omega) .nil
  · exact .same .nil
  · exact .same .nil
def ScanRS (C:CallW) (f:FuncId):Prop:=∀(h:Nat) (Q:Sto) (O:List Nat) (a b:Key) (s:Stp) (m:Int) S H (K:AV→St→Prop),StA H O h Q→Q.length≤1000→(∀v G,ScV (scanQ Q a b s m) v→K v ⟨S,H ++ G⟩)→C (.fn f) [.ptr (.heap h) 0,.agg (bs a.b),.agg (bs b.b),.agg (stc s),.s (.int .i64 m)] ⟨S,H⟩ K
theorem app_it0 {e:ET} {v:It} {σ:St} (h1:e.c=17) (h2:e.bytes=32):appendL e false (.s .nilS) (.list .full 17 [.agg (itc v)]) σ=some (.list .uniq 17 (([] ++ [v]).map itA),σ):=by
  have h:=app_slG (e:=e) (es:=[]) (a:=itA v) (σ:=σ) itc_under (by rw [h2]; simp)
  rw [h1] at h
  exact h
theorem app_itO {e:ET} {l:List It} {v:It} {σ:St} (h1:e.c=17) (h2:e.bytes=32) (hl:l.length≤1000000):appendL e false (.list .own 17 (l.map itA)) (.list .full 17 [.agg (itc v)]) σ=some (.list .own 17 ((l ++ [v]).map itA),σ):=by
  have he:elemsL e (.list .full 17 [itA v]) σ=some [itA v]:=by simp [elemsL,h1]
  have hg:AV.under.go 0 [itA v]=true:=by simp [AV.under.go,itA_under]
  unfold appendL
  rw [show (AV.agg (itc v))=itA v from rfl]
  simp only [srcL,AV.isSlice,if_true,he,Option.bind_some,hg,appItems,h1,h2]
  simp
  omega
theorem tk30 {α:Type} {S:List α} {a b c:α}:(S ++ [a,b,c]).take (S.length + 3)=S ++ [a,b,c]:=List.take_of_length_le (by simp)
theorem tk3 {α:Type} {S:List α} {a b c d:α}:(S ++ [a,b,c,d]).take (S.length + 3)=S ++ [a,b,c]:=by
  rw [show S ++ [a,b,c,d]=(S ++ [a,b,c]) ++ [d] by simp,List.take_append_of_le_length (by simp),List.take_of_length_le (by simp)]
set_option maxHeartbeats 16000000 in
theorem store_Scan_spec {C:CallW} (hC:LeC C C) (P:Program) {c:Nat→FuncId} (h0:StKeysS C (c 0)) (h1:WithinS C (c 1)) (h2:StGetS C (c 2)):∀(h:Nat) (Q:Sto) (O:List Nat) (a b:Key) (s:Stp) (m:Int) S H (K:AV→St→Prop),StA H O h Q→Q.length≤1000→(∀v G,ScV (scanQ Q a b s m) v→K v ⟨S,H ++ G⟩)→runL C P (Cz14 c) [.ptr (.heap h) 0,.agg (bs a.b),.agg (bs b.b),.agg (stc s),.s (.int .i64 m)] ⟨S,H⟩ K:=by
  intro h Q O a b s m S H K t hq hK
  unfold scanQ at hK
  simp only [stc,Cz14,A_,simprocAttr,ne_eq,(Uz4 _).1,CHK_,Nat.reduceBEq]
  refine h0 h Q O _ _ _ t hq fun G0 => ?_
  have hkl:(keysQ Q).length≤1000:=by have:=(keysQ_perm Q).length_eq; rw [List.length_map] at this; omega
  generalize keysQ Q=ks at hK hkl
  simp only [lstK,stc,Cz14,A_,simprocAttr,ne_eq,(Uz4 _).1,CHK_,Nat.reduceBEq]
  refine loop_rule hC (α:=Nat×List It×List HObj×AV) (fun x=>ks.length - x.1) (fun x=>[.ptr (.heap h) 0,uu,uu,uu,.s (.int .i64 m),.undef,.ptr (.stk S.length) 0,.ptr (.stk (S.length + 1)) 0,.ptr (.stk (S.length + 2)) 0,uu,uu,x.2.2.2,uu,uu,uu,uu,uu,.list .sh 16 (ks.map kA),.s (.int .i64 ks.length),.s (.int .i64 x.1),uu,uu,uu,uu,uu,uu,uu,uu,uu,uu,uu,uu,uu,uu,uu,uu,uu,uu,uu,uu,uu,uu,uu,uu,uu,uu,uu,uu]) (fun _=>S ++ [bs a.b,bs b.b,stc s]) (fun x=>H ++ x.2.2.1) (fun x=>x.1≤ks.length∧x.2.1.length≤x.1∧ScV x.2.1 x.2.2.2∧scanF Q a b s m [] ks=scanF Q a b s m x.2.1 (ks.drop x.1)) (0,[],G0,.s .nilS) ⟨by simp,by simp,.inl ⟨rfl,rfl⟩,by simp⟩ rfl tk30 rfl (fun x hx=>by simp [AV.under,AV.under.go,hx.2.2.1.und]) ?_
  rintro ⟨i,acc,G,v⟩ ⟨hi,hal,hv,hinv⟩ ih
  dsimp only at hi hal hv hinv
  by_cases h16:i < ks.length
  · have hlt:((i:Int) < (ks.length:Int)):=by omega
    have hw:IntKind.i64.wrap ((i:Int) + 1)=(i:Int) + 1:=wrap_i64 (by omega) (by omega)
    rw [List.drop_eq_getElem_cons h16,scanF] at hinv
    have e2:∀k:IntKind,indexAddrL (.sl 16) (.list .sh 16 (ks.map kA)) (.s (.int k (i:Int)))=some (.rop (bs ks[i].b)):=fun k=>ixl_map h16 (by omega)
    have e0:((([]:List It).length:Nat):Int)=0:=rfl
    have h2':=fun S' H'=>h2 h Q O ks[i] s S' H'
    simp only [stc] at h2'
    have ha:∀(e:ET) (x:It) (σ:St),e.c=17→e.bytes=32→appendL e false (.list .own 17 (acc.map itA)) (.list .full 17 [.agg (itc x)]) σ=some (.list .own 17 ((acc ++ [x]).map itA),σ):=fun e x σ h1 h2=>app_itO h1 h2 (by omega)
    have ha0:∀(e:ET) (x:It) (σ:St),e.c=17→e.bytes=32→appendL e false (.s .nilS) (.list .full 17 [.agg (itc x)]) σ=some (.list .uniq 17 (([] ++ [x]).map itA),σ):=fun e x σ h1 h2=>app_it0 h1 h2
    have hitc:bs ks[i].b ++ [.s (.str (getS Q ks[i] s).1)]=itc ⟨ks[i],(getS Q ks[i] s).1⟩:=rfl
    by_cases hm:m≤(acc.length:Int)
    · rw [if_pos hm] at hinv
      rw [hinv] at hK
      rcases hv with ⟨rfl,rfl⟩ | rfl | rfl
      · rw [e0] at hm
        simp only [stc,A_,simprocAttr,ne_eq,(Uz4 _).1,CHK_,Nat.reduceBEq,hlt,h16,hm]
        exact hK _ _ (.inl ⟨rfl,rfl⟩)
      · simp only [stc,A_,simprocAttr,ne_eq,(Uz4 _).1,CHK_,Nat.reduceBEq,hlt,h16,hm]
        exact hK _ _ (.inr (.inr rfl))
      · simp only [stc,A_,simprocAttr,ne_eq,(Uz4 _).1,CHK_,Nat.reduceBEq,hlt,h16,hm]
        exact hK _ _ (.inr (.inr rfl))
    · rw [if_neg hm] at hinv
      rcases hv with ⟨rfl,rfl⟩ | hv
      · rw [e0] at hm
        simp only [stc,A_,simprocAttr,ne_eq,(Uz4 _).1,CHK_,Nat.reduceBEq,hlt,h16,hm]
        refine h1 _ _ _ _ _ _ ?_
        cases e3:withinK ks[i] a b with
        | false =>
          rw [if_pos e3] at hinv
          simp only [stc,A_,simprocAttr,ne_eq,(Uz4 _).1,CHK_,Nat.reduceBEq,e3,hw]
          exact ih (i + 1,[],G,.s .nilS) _ _ _ (by show ks.length - (i + 1) < ks.length - i; omega) ⟨by show i + 1≤ks.length; omega,by show 0≤i + 1; omega,.inl ⟨rfl,rfl⟩,hinv⟩ rfl tk3 rfl
        | true =>
          rw [if_neg (by rw [e3]; simp)] at hinv
          simp only [stc,A_,simprocAttr,ne_eq,(Uz4 _).1,CHK_,Nat.reduceBEq,e3,hw]
          refine h2' _ _ _ t.app fun G' => ?_
          cases e4:(getS Q ks[i] s).2 with
          | false =>
            rw [if_neg (by rw [e4]; simp)] at hinv
            simp only [stc,A_,simprocAttr,ne_eq,(Uz4 _).1,CHK_,Nat.reduceBEq,e4,hw]
            exact ih (i + 1,[],G ++ G',.s .nilS) _ _ _ (by show ks.length - (i + 1) < ks.length - i; omega) ⟨by show i + 1≤ks.length; omega,by show 0≤i + 1; omega,.inl ⟨rfl,rfl⟩,hinv⟩ rfl tk3 rfl
          | true =>
            rw [if_pos e4] at hinv
            simp only [stc,A_,simprocAttr,ne_eq,(Uz4 _).1,CHK_,Nat.reduceBEq,e4,hw,hitc,itc_length,itc_under,ha0]
            exact ih (i + 1,[⟨ks[i],(getS Q ks[i] s).1⟩],G ++ G',.list .uniq 17 ([⟨ks[i],(getS Q ks[i] s).1⟩].map itA)) _ _ _ (by show ks.length - (i + 1) < ks.length - i; omega) ⟨by show i + 1≤ks.length; omega,by show 1≤i + 1; omega,.inr (.inl rfl),hinv⟩ rfl tk3 rfl
      · rcases hv with rfl | rfl
        all_goals
          simp only [stc,A_,simprocAttr,ne_eq,(Uz4 _).1,CHK_,Nat.reduceBEq,hlt,h16,hm]
          refine h1 _ _ _ _ _ _ ?_
          cases e3:withinK ks[i] a b with
          | false =>
            rw [if_pos e3] at hinv
            simp only [stc,A_,simprocAttr,ne_eq,(Uz4 _).1,CHK_,Nat.reduceBEq,e3,hw]
            exact ih (i + 1,acc,G,.list .own 17 (acc.map itA)) _ _ _ (by show ks.length - (i + 1) < ks.length - i; omega) ⟨by show i + 1≤ks.length; omega,by show acc.length≤i + 1; omega,.inr (.inr rfl),hinv⟩ rfl tk3 rfl
          | true =>
            rw [if_neg (by rw [e3]; simp)] at hinv
            simp only [stc,A_,simprocAttr,ne_eq,(Uz4 _).1,CHK_,Nat.reduceBEq,e3,hw]
            refine h2' _ _ _ t.app fun G' => ?_
            cases e4:(getS Q ks[i] s).2 with
            | false =>
              rw [if_neg (by rw [e4]; simp)] at hinv
              simp only [stc,A_,simprocAttr,ne_eq,(Uz4 _).1,CHK_,Nat.reduceBEq,e4,hw]
              exact ih (i + 1,acc,G ++ G',.list .own 17 (acc.map itA)) _ _ _ (by show ks.length - (i + 1) < ks.length - i; omega) ⟨by show i + 1≤ks.length; omega,by show acc.length≤i + 1; omega,.inr (.inr rfl),hinv⟩ rfl tk3 rfl
            | true =>
              rw [if_pos e4] at hinv
              simp only [stc,A_,simprocAttr,ne_eq,(Uz4 _).1,CHK_,Nat.reduceBEq,e4,hw,hitc,itc_length,itc_under,ha]
              exact ih (i + 1,acc ++ [(⟨ks[i],(getS Q ks[i] s).1⟩:It)],G ++ G',.list .own 17 ((acc ++ [(⟨ks[i],(getS Q ks[i] s).1⟩:It)]).map itA)) _ _ _ (by show ks.length - (i + 1) < ks.length - i; omega) ⟨by show i + 1≤ks.length; omega,by show (acc ++ [(⟨ks[i],(getS Q ks[i] s).1⟩:It)]).length≤i + 1; simp; omega,.inr (.inr rfl),hinv⟩ rfl tk3 rfl
  · have hlt:¬((i:Int) < (ks.length:Int)):=by omega
    rw [List.drop_of_length_le (by omega),scanF] at hinv
    rw [hinv] at hK
    rcases hv with ⟨rfl,rfl⟩ | rfl | rfl
    all_goals simp only [A_,simprocAttr,ne_eq,(Uz4 _).1,CHK_,Nat.reduceBEq,hlt]
    · exact hK _ _ (.inl ⟨rfl,rfl⟩)
    · exact hK _ _ (.inr (.inl rfl))
    · exact hK _ _ (.inr (.inr rfl))
end Go.AM
namespace Go.AM
open Go
set_option maxRecDepth 20000
def y41a1:LCode:=(.seq (.sq [(zv 3 0),(zs 4 (.build [(.s (.int .i64 0)),(.s (.int .u8 0))] [(0,1,(.t 3))])),(zn (.store 2 (.t 2) (.t 4)))]) .ret)
def Uz2u:=PLift.up (@unfC _ _ (y41a1.eq_1))
def Cz1d:LFn:=⟨5,[.many 2 2],(.seq (.sq [(zs 2 (.alloc false [(.s (.int .i64 0)),(.s (.int .u8 0))]))]) y41a1)⟩
def y41b1 (c:Nat→FuncId):LCode:=(.seq (.sq [(zv 6 0),(zs 7 (.call (.f (c 0)) [(.t 6)])),(zv 5 7),(zs 8 (.ext (.t 5) 0)),(zs 9 (.ext (.t 5) 1)),(zs 3 (.alloc false zk)),(zn (.store 16 (.t 3) (.t 8))),(zs 4 (.mv true (.t 9)))]) (.seq (.sq [(zs 10 (.loadA 16 (.t 3))),(zn (.store 16 (.t 2) (.t 10)))]) .ret))
def Uz1w (c:Nat→FuncId):=PLift.up (@unfC _ _ (y41b1.eq_1 c))
def Cz1g (c:Nat→FuncId):LFn:=⟨11,[.many 2 16],(.seq (.sq [(zs 2 (.alloc false zk))]) (y41b1 c))⟩
def y41c1 (c:Nat→FuncId):LCode:=(.seq (.sq [(zv 30 2),(zs 31 (.bin .eql .sc (.t 30) (zi 0))),(zv 32 31),(zt 33 32 (.mv false (.t 4))),(zt 34 32 (.un .not (.t 33))),(zs 35 (.pick (.t 32) (.t 34) zF)),(zv 36 35),(zt 37 36 (.mv false (.t 6))),(zs 38 (.pick (.t 36) (.t 37) zF)),(zv 39 38),(zt 40 39 (.mv false (.t 5))),(zt 41 39 (.bin .eql .sc (.t 40) (.c (.str [120])))),(zs 42 (.pick (.t 39) (.t 41) zF)),(zv 43 42),(zt 44 43 (.mv false (.t 1))),(zt 45 43 (.call (.f (c 5)) [(.t 44)])),(zt 46 43 (.len .sl (.t 45))),(zt 47 43 (.bin .eql .sc (.t 46) (zi 1))),(zs 48 (.pick (.t 43) (.t 47) zF)),(zs 0 (.mv true (.t 48)))]) .ret)
def y41c2 (c:Nat→FuncId):LCode:=(.seq (.sq [(zv 24 1),(zs 25 (.call (.f (c 2)) [(.c (.str [97]))])),(zs 26 (.call (.f (c 1)) [(zi 2)])),(zs 27 (.call (.f (c 4)) [(.t 24),(.t 25),(.t 26)])),(zv 23 27),(zs 28 (.ext (.t 23) 0)),(zs 29 (.ext (.t 23) 1)),(zs 5 (.mv true (.t 28))),(zs 6 (.mv true (.t 29)))]) (y41c1 c))
def y41c3 (c:Nat→FuncId):LCode:=(.seq (.sq [(zv 17 1),(zs 18 (.call (.f (c 2)) [(.c (.str [97]))])),(zs 19 (.build [(.s (.int .i64 0)),(.s (.int .u8 0))] [(0,1,(zi 1)),(1,1,(.c (.int .u8 9)))])),(zs 20 (.call (.f (c 4)) [(.t 17),(.t 18),(.t 19)])),(zv 16 20),(zs 21 (.ext (.t 16) 0)),(zs 22 (.ext (.t 16) 1)),(zs 3 (.mv true (.t 21))),(zs 4 (.mv true (.t 22)))]) (y41c2 c))
def y41c4 (c:Nat→FuncId):LCode:=(.seq (.sq [(zv 10 1),(zs 11 (.call (.f (c 1)) [(zi 2)])),(zs 12 (.call (.f (c 2)) [(.c (.str [97]))])),(zs 13 (.build (zk ++ [(.s (.str [])),(.s (.bool false))]) [(0,16,(.t 12)),(16,1,(.c (.str [120])))])),(zs 14 (.bsl ⟨18,true,40,(.agg (zk ++ [(.s (.str [])),(.s (.bool false))]))⟩ 1 [(0,(.t 13))])),(zs 15 (.call (.f (c 3)) [(.t 10),(.t 11),(.t 14)])),(zs 2 (.mv true (.t 15)))]) (y41c3 c))
def y41c5 (c:Nat→FuncId):LCode:=(.seq (.seq (.sq [(zv 8 1),(zs 9 (.bin .eql (.ref 0) (.t 8) (.c .nilP)))]) (.cond (.t 9) (.seq (.sq [(zs 0 (.mv true zF))]) .ret) .skip)) (y41c4 c))
def Uz6 (c:Nat→FuncId):=PLift.up (zc (zc (@unfC _ _ (y41c1.eq_1 c)) (@unfC _ _ (y41c2.eq_1 c))) (zc (@unfC _ _ (y41c3.eq_1 c)) (zc (@unfC _ _ (y41c4.eq_1 c)) (@unfC _ _ (y41c5.eq_1 c)))))
def Cz3 (c:Nat→FuncId):LFn:=⟨49,[.t 0],(.seq (.sq [(zs 0 (.mv true zF))]) (.seq (.sq [(zs 7 (.call (.f (c 0)) [])),(zs 1 (.mv true (.t 7)))]) (y41c5 c)))⟩
def y41d1:LCode:=(.sq [(zv 11 3),(zs 12 (.bin .add .sc (.t 11) (zi 1))),(zs 3 (.mv true (.t 12)))])
def y41d2:LCode:=(.seq (.block 1 (.seq (.sq [(zv 13 0),(zv 14 3),(zs 15 (.ixa (.sl 18) (.t 13) (.t 14))),(zs 16 (.shift 16 (.t 15))),(zs 17 (.load1 false (.t 16))),(zs 18 (.len .str (.t 17))),(zs 19 (.bin .gtr .sc (.t 18) (zi 250)))]) (.cond (.t 19) (.seq (.sq [(zs 2 (.mv true zT))]) .ret) .skip))) y41d1)
def y41d3:LCode:=(.seq (.seq (.sq [(zv 7 3),(zv 8 0),(zs 9 (.len .sl (.t 8))),(zs 10 (.bin .lss .sc (.t 7) (.t 9)))]) (.cond (.t 10) .skip (.exit 0))) y41d2)
def y41d4:LCode:=(.block 0 (.loop (zm false [0,1,2,1,16]) y41d3))
def y41d5:LCode:=(.seq (.seq (.sq [(zs 3 (.mv true (zi 0)))]) y41d4) (.seq (.sq [(zs 2 (.mv true zF))]) .ret))
def y41d6:LCode:=(.seq (.seq (.sq [(zv 4 0),(zs 5 (.len .sl (.t 4))),(zs 6 (.bin .gtr .sc (.t 5) (zi 20)))]) (.cond (.t 6) (.seq (.sq [(zs 2 (.mv true zT))]) .ret) .skip)) y41d5)
def Uzm:=PLift.up (zc (zc (@unfC _ _ (y41d1.eq_1)) (zc (@unfC _ _ (y41d2.eq_1)) (@unfC _ _ (y41d3.eq_1)))) (zc (@unfC _ _ (y41d4.eq_1)) (zc (@unfC _ _ (y41d5.eq_1)) (@unfC _ _ (y41d6.eq_1)))))
def Czw:LFn:=⟨20,[.t 2],(.seq (.sq [(zs 2 (.mv true zF))]) y41d6)⟩
def y41j1 (c:Nat→FuncId):LCode:=(.tree (.rd (zv 36 11) 0 false (.rd (zv 37 0) 1 false (.rd (zv 38 12) 2 false (.rd (zs 39 (.ixa (.sl 4) (.t 37) (.t 38))) 3 false (.rd (zs 40 (.shift 1 (.t 39))) 4 false (.rd (zs 41 (.loadA 2 (.t 40))) 5 false (.rd (zv 42 0) 6 false (.rd (zv 43 12) 7 false (.rd (zs 44 (.ixa (.sl 4) (.t 42) (.t 43))) 8 false (.rd (zs 45 (.shift 3 (.t 44))) 9 false (.rd (zs 46 (.load1 false (.t 45))) 10 false (.mv (zs 47 (.call (.f (c 3)) [(.t 36),(.t 41),(.t 46)])) [0,1,2,3,4,5,6,7,8,9,10] .done .stop)))))))))))))
def y41j2 (c:Nat→FuncId):LCode:=(.sq [(zv 28 12),(zs 29 (.bin .add .sc (.t 28) (zi 1))),(zs 12 (.mv true (.t 29)))])
def y41j3 (c:Nat→FuncId):LCode:=(.seq (.block 1 (.seq (.seq (.sq [(zv 30 0),(zv 31 12),(zs 32 (.ixa (.sl 4) (.t 30) (.t 31))),(zs 33 (.shift 3 (.t 32))),(zs 34 (.load1 false (.t 33))),(zs 35 (.call (.f (c 2)) [(.t 34)]))]) (.cond (.t 35) (.seq (.sq [(zs 10 (.mv true zT))]) .ret) .skip)) (y41j1 c))) (y41j2 c))
def y41j4 (c:Nat→FuncId):LCode:=(.seq (.seq (.sq [(zv 24 12),(zv 25 0),(zs 26 (.len .sl (.t 25))),(zs 27 (.bin .lss .sc (.t 24) (.t 26)))]) (.cond (.t 27) .skip (.exit 0))) (y41j3 c))
def y41j5 (c:Nat→FuncId):LCode:=(.block 0 (.loop (zm false [0,1,5,4,1,2,137]) (y41j4 c)))
def y41j6 (c:Nat→FuncId):LCode:=(.seq (.tree (.rd (zv 70 16) 0 false (.rd (zs 71 (.un .not (.t 70))) 1 false (.rd (zv 72 71) 2 false (.rd (zf 73 72 (.mv false (.t 15))) 3 false (.rd (zf 74 72 (.mv false (.t 13))) 4 false (.rd (zf 75 72 (.mv false (.t 14))) 5 false (.rd (zf 76 72 (.ixa (.sl 17) (.t 74) (.t 75))) 6 false (.rd (zf 77 72 (.shift 16 (.t 76))) 7 false (.rd (zf 78 72 (.load1 false (.t 77))) 8 false (.rd (zf 79 72 (.bin .neq .sc (.t 73) (.t 78))) 9 false (.rd (zs 80 (.pick (.t 72) zT (.t 79))) 10 false (.rd (zv 81 80) 11 false (.rd (zf 82 81 (.mv false (.t 13))) 12 false (.rd (zf 83 81 (.mv false (.t 14))) 13 false (.rd (zf 84 81 (.ixa (.sl 17) (.t 82) (.t 83))) 14 false (.rd (zf 85 81 (.shift 0 (.t 84))) 15 false (.rd (zf 86 81 (.loadA 16 (.t 85))) 16 false (.rd (zf 87 81 (.loadA 16 (.t 6))) 17 false (.rd (zf 88 81 (.loadA 16 (.t 8))) 18 false (.mv (zf 89 81 (.call (.f (c 6)) [(.t 86),(.t 87),(.t 88)])) [0,1,2,3,4,5,6,7,8,9,10,11,12,13,14,15,16,17,18] (.rd (zf 90 81 (.un .not (.t 89))) 20 false (.rd (zs 91 (.pick (.t 81) zT (.t 90))) 21 false (.rd (zv 92 91) 22 false (.rd (zf 93 92 (.mv false (.t 14))) 23 false (.rd (zf 94 92 (.bin .gtr .sc (.t 93) (zi 0))) 24 false (.rd (zf 95 92 (.mv false (.t 94))) 25 false (.rd (zt 96 95 (.mv false (.t 13))) 26 false (.rd (zt 97 95 (.mv false (.t 14))) 27 false (.rd (zt 98 95 (.bin .sub .sc (.t 97) (zi 1))) 28 false (.rd (zt 99 95 (.ixa (.sl 17) (.t 96) (.t 98))) 29 false (.rd (zt 100 95 (.shift 0 (.t 99))) 30 false (.rd (zt 101 95 (.loadA 16 (.t 100))) 31 false (.rd (zt 102 95 (.mv false (.t 13))) 32 false (.rd (zt 103 95 (.mv false (.t 14))) 33 false (.rd (zt 104 95 (.ixa (.sl 17) (.t 102) (.t 103))) 34 false (.rd (zt 105 95 (.shift 0 (.t 104))) 35 false (.rd (zt 106 95 (.loadA 16 (.t 105))) 36 false (.mv (zt 107 95 (.call (.f (c 7)) [(.t 101),(.t 106)])) [0,1,2,3,4,5,6,7,8,9,10,11,12,13,14,15,16,17,18,19,20,21,22,23,24,25,26,27,28,29,30,31,32,33,34,35,36] (.rd (zt 108 95 (.bin .geq .sc (.t 107) (zi 0))) 38 false (.rd (zf 109 92 (.pick (.t 95) (.t 108) zF)) 39 false (.rd (zs 110 (.pick (.t 92) zT (.t 109))) 40 false .done))) .stop)))))))))))))))))) .stop))))))))))))))))))))) (.cond (.t 110) (.seq (.sq [(zs 10 (.mv true zF))]) .ret) .skip))
def y41j7 (c:Nat→FuncId):LCode:=(.sq [(zv 57 14),(zs 58 (.bin .add .sc (.t 57) (zi 1))),(zs 14 (.mv true (.t 58)))])
def y41j8 (c:Nat→FuncId):LCode:=(.seq (.block 3 (.seq (.tree (.rd (zv 60 11) 0 false (.rd (zv 61 13) 1 false (.rd (zv 62 14) 2 false (.rd (zs 63 (.ixa (.sl 17) (.t 61) (.t 62))) 3 false (.rd (zs 64 (.shift 0 (.t 63))) 4 false (.rd (zs 65 (.loadA 16 (.t 64))) 5 false (.rd (zs 66 (.loadA 2 (.t 9))) 6 false (.mv (zs 67 (.call (.f (c 5)) [(.t 60),(.t 65),(.t 66)])) [0,1,2,3,4,5,6] (.rd (zv 59 67) 8 false (.rd (zs 68 (.ext (.t 59) 0)) 9 false (.rd (zs 69 (.ext (.t 59) 1)) 10 true (.mv (zs 15 (.mv true (.t 68))) [0,1,2,3,4,5,6,7,8,9] (.mv (zs 16 (.mv true (.t 69))) [0,1,2,3,4,5,6,7,8,9,10,11] .done .stop) .stop)))) .stop))))))))) (y41j6 c))) (y41j7 c))
def y41j9 (c:Nat→FuncId):LCode:=(.seq (.seq (.sq [(zv 53 14),(zv 54 13),(zs 55 (.len .sl (.t 54))),(zs 56 (.bin .lss .sc (.t 53) (.t 55)))]) (.cond (.t 56) .skip (.exit 2))) (y41j8 c))
def y41j10 (c:Nat→FuncId):LCode:=(.block 2 (.loop (zm false [6,4,1,1,1,2,135]) (y41j9 c)))
def y41j11 (c:Nat→FuncId):LCode:=(.seq (.sq [(zs 142 (.loadA 16 (.t 7))),(zs 143 (.loadA 16 (.t 8))),(zs 144 (.bin .eql (.leaf lk) (.t 142) (.t 143))),(zv 145 144),(zf 146 145 (.mv true (.t 13))),(zf 147 145 (.mv true (.t 17))),(zf 148 145 (.call (.f (c 8)) [(.t 146),(.t 147)])),(zs 149 (.pick (.t 145) zT (.t 148))),(zs 10 (.mv true (.t 149)))]) .ret)
def y41j12 (c:Nat→FuncId):LCode:=(.seq (.tree (.rd (zv 131 11) 0 false (.rd (zs 132 (.loadA 16 (.t 6))) 1 false (.rd (zs 133 (.loadA 16 (.t 7))) 2 false (.rd (zs 134 (.loadA 2 (.t 9))) 3 false (.rd (zv 136 11) 5 true (.rd (zs 137 (.loadA 16 (.t 7))) 6 true (.rd (zs 138 (.loadA 16 (.t 8))) 7 true (.rd (zs 139 (.loadA 2 (.t 9))) 8 true (.mv (zs 135 (.call (.f (c 4)) [(.t 131),(.t 132),(.t 133),(.t 134),(zi 300)])) [0,1,2,3] (.mv (zs 140 (.call (.f (c 4)) [(.t 136),(.t 137),(.t 138),(.t 139),(zi 300)])) [0,1,2,3,4,5,6,7,8] (.mv (zs 141 (.app ⟨17,true,32,(.agg (zk ++ [(.s (.str []))]))⟩ false (.t 135) (.t 140))) [0,1,2,3,4,5,6,7,8,9] (.mv (zs 17 (.mv true (.t 141))) [0,1,2,3,4,5,6,7,8,9,10] .done .stop) .stop) .stop) .stop)))))))))) (y41j11 c))
def y41j13 (c:Nat→FuncId):LCode:=(.seq (.seq (.sq [(zs 111 (.loadA 16 (.t 7))),(zs 112 (.loadA 16 (.t 6))),(zs 113 (.call (.f (c 7)) [(.t 111),(.t 112)])),(zs 114 (.bin .lss .sc (.t 113) (zi 0))),(zv 115 114),(zf 116 115 (.loadA 16 (.t 8))),(zf 117 115 (.build zk [])),(zf 118 115 (.bin .neq (.leaf lk) (.t 116) (.t 117))),(zf 119 115 (.mv false (.t 118))),(zt 120 119 (.loadA 16 (.t 7))),(zt 121 119 (.loadA 16 (.t 8))),(zt 122 119 (.call (.f (c 7)) [(.t 120),(.t 121)])),(zt 123 119 (.bin .gtr .sc (.t 122) (zi 0))),(zf 124 115 (.pick (.t 119) (.t 123) zF)),(zs 125 (.pick (.t 115) zT (.t 124))),(zv 126 125),(zf 127 126 (.loadA 16 (.t 7))),(zf 128 126 (.build zk [])),(zf 129 126 (.bin .eql (.leaf lk) (.t 127) (.t 128))),(zs 130 (.pick (.t 126) zT (.t 129)))]) (.cond (.t 130) (.seq (.sq [(zs 10 (.mv true zT))]) .ret) .skip)) (y41j12 c))
def y41j14 (c:Nat→FuncId):LCode:=(.seq (.seq (.sq [(zs 14 (.mv true (zi 0)))]) (y41j10 c)) (y41j13 c))
def y41j15 (c:Nat→FuncId):LCode:=(.seq (.sq [(zv 48 11),(zs 49 (.loadA 16 (.t 6))),(zs 50 (.loadA 16 (.t 8))),(zs 51 (.loadA 2 (.t 9))),(zs 52 (.call (.f (c 4)) [(.t 48),(.t 49),(.t 50),(.t 51),(zi 300)])),(zs 13 (.mv true (.t 52)))]) (y41j14 c))
def y41j16 (c:Nat→FuncId):LCode:=(.seq (.seq (.sq [(zs 12 (.mv true (zi 0)))]) (y41j5 c)) (y41j15 c))
def y41j17 (c:Nat→FuncId):LCode:=(.seq (.sq [(zs 23 (.call (.f (c 1)) [])),(zs 11 (.mv true (.t 23)))]) (y41j16 c))
def y41j18 (c:Nat→FuncId):LCode:=(.seq (.seq (.sq [(zv 20 0),(zs 21 (.len .sl (.t 20))),(zs 22 (.bin .gtr .sc (.t 21) (zi 20)))]) (.cond (.t 22) (.seq (.sq [(zs 10 (.mv true zT))]) .ret) .skip)) (y41j17 c))
def y41j19 (c:Nat→FuncId):LCode:=(.seq (.seq (.sq [(zs 18 (.call (.f (c 0)) [])),(zs 19 (.un .not (.t 18)))]) (.cond (.t 19) (.seq (.sq [(zs 10 (.mv true zF))]) .ret) .skip)) (y41j18 c))
def Uz0 (c:Nat→FuncId):=PLift.up (zc (zc (zc (zc (@unfC _ _ (y41j1.eq_1 c)) (@unfC _ _ (y41j2.eq_1 c))) (zc (@unfC _ _ (y41j3.eq_1 c)) (@unfC _ _ (y41j4.eq_1 c)))) (zc (zc (@unfC _ _ (y41j5.eq_1 c)) (@unfC _ _ (y41j6.eq_1 c))) (zc (@unfC _ _ (y41j7.eq_1 c)) (zc (@unfC _ _ (y41j8.eq_1 c)) (@unfC _ _ (y41j9.eq_1 c)))))) (zc (zc (zc (@unfC _ _ (y41j10.eq_1 c)) (@unfC _ _ (y41j11.eq_1 c))) (zc (@unfC _ _ (y41j12.eq_1 c)) (zc (@unfC _ _ (y41j13.eq_1 c)) (@unfC _ _ (y41j14.eq_1 c))))) (zc (zc (@unfC _ _ (y41j15.eq_1 c)) (@unfC _ _ (y41j16.eq_1 c))) (zc (@unfC _ _ (y41j17.eq_1 c)) (zc (@unfC _ _ (y41j18.eq_1 c)) (@unfC _ _ (y41j19.eq_1 c)))))))
def Czc (c:Nat→FuncId):LFn:=⟨150,[.t 10],(.seq (.sq [(zs 6 (.box false false (.t 1))),(zs 7 (.box false false (.t 2))),(zs 8 (.box false false (.t 3))),(zs 9 (.box false false (.t 4))),(zs 10 (.mv true zF))]) (y41j19 c))⟩
end Go.AM
namespace Go.AM
open Go
set_option maxRecDepth 20000
def AtS (C:CallW) (f:FuncId):Prop:=∀t:Int,FnS C f [.s (.int .i64 t)] (.agg (stc ⟨t,0⟩))
def ofV (id snap t:Int) (s v:List UInt8):AV := .agg [.s (.int .i64 id),.s (.int .i64 snap),u8 0,.s (.int .i64 t),u8 0,.s (.bool true),.s .nilS,.list .full 18 [.agg (wc ⟨(keyOf s).1,v,false⟩)]]
end Go.AM
namespace Go.AM
open Go
open AV renaming undef → uu
set_option maxRecDepth 20000
theorem law12_k_spec {C:CallW} (P:Program) {c:Nat→FuncId} (hf:OfR C (c 0)):∀(s:List UInt8) (S:List (List AV)) (H:List HObj) (K:AV→St→Prop),K (.agg (bs (keyOf s).1.b)) ⟨S,H⟩→runL C P (Cz1g c) [.s (.str s)] ⟨S,H⟩ K:=by
  intro s S H K hK
  simp only [Cz1g,A_,simprocAttr,ne_eq,(Uz1w _).1]
  refine hf _ _ _ _ ?_
  simp only [A_,simprocAttr,ne_eq,(Uz1w _).1]
  exact hK
theorem law12_at_spec {C:CallW} (P:Program):∀(t:Int) S H (K:AV→St→Prop),K (.agg (stc ⟨t,0⟩)) ⟨S,H⟩→runL C P Cz1d [.s (.int .i64 t)] ⟨S,H⟩ K:=by
  intro t S H K hK
  simp only [Cz1d,A_,simprocAttr,ne_eq,Uz2u.1]
  exact hK
theorem law12_long_spec {C:CallW} (hC:LeC C C) (P:Program):∀(l:List Wr) S H (K:AV→St→Prop),l.length≤9223372036854775807→K (.bool (long14 l)) ⟨S,H⟩→runL C P Czw [lstW l] ⟨S,H⟩ K:=by
  intro l S H K hl hK
  unfold long14 at hK
  by_cases h20:20 < l.length
  · have h20':((20:Int) < (l.length:Int)):=by omega
    rw [decide_eq_true h20,Bool.true_or] at hK
    simp only [lstW,Czw,A_,simprocAttr,ne_eq,Uzm.1,h20']
    exact hK
  have h20':¬((20:Int) < (l.length:Int)):=by omega
  rw [decide_eq_false h20,Bool.false_or] at hK
  simp only [lstW,Czw,A_,simprocAttr,ne_eq,Uzm.1,h20']
  refine loop_rule hC (α:=Nat) (fun a=>l.length - a) (fun a=>[.list .sh 18 (l.map wA),uu,uu,.s (.int .i64 a),uu,uu,uu,uu,uu,uu,uu,uu,uu,uu,uu,uu,uu,uu,uu,uu]) (fun _=>S) (fun _=>H) (fun i=>i≤l.length∧(l.any fun w=>decide (250 < w.val.length))=((l.drop i).any fun w=>decide (250 < w.val.length))) 0 ⟨by simp,rfl⟩ rfl (by simp) rfl (fun a _=>by simp [AV.under,AV.under.go]) ?_
  rintro i ⟨hi,hinv⟩ ih
  by_cases h16:i < l.length
  · have hlt:((i:Int) < (l.length:Int)):=by omega
    have hw:IntKind.i64.wrap ((i:Int) + 1)=(i:Int) + 1:=wrap_i64 (by omega) (by omega)
    rw [List.drop_eq_getElem_cons h16,List.any_cons] at hinv
    by_cases e:250 < (l[i]).val.length
    · have e':((250:Int) < ((l[i]).val.length:Int)):=by omega
      rw [decide_eq_true e,Bool.true_or] at hinv
      rw [hinv] at hK
      simp only [A_,simprocAttr,ne_eq,Uzm.1,hlt,h16,e']
      exact hK
    · have e':¬((250:Int) < ((l[i]).val.length:Int)):=by omega
      rw [decide_eq_false e,Bool.false_or] at hinv
      simp only [A_,simprocAttr,ne_eq,Uzm.1,hlt,h16,e',hw]
      exact ih (i + 1) _ _ _ (by omega) ⟨by omega,hinv⟩ rfl (by simp) rfl
  · have hlt:¬((i:Int) < (l.length:Int)):=by omega
    rw [List.drop_of_length_le (by omega),List.any_nil] at hinv
    rw [hinv] at hK
    simp only [A_,simprocAttr,ne_eq,Uzm.1,hlt]
    exact hK
structure SAct where
  op:Int
  stp:Stp
  l:List Wr
def sacc (a:SAct):List AV:=[.s (.int .i64 a.op),.s (.int .i64 a.stp.t),u8 a.stp.n,lstW a.l]
def sacA (a:SAct):AV := .agg (sacc a)
theorem ixl_sac {l:List SAct} {i:Nat} (h:i < l.length) (k:IntKind):indexAddrL (.sl 4) (.list .sh 4 (l.map sacA)) (.s (.int k (i:Int)))=some (.rop [.s (.int .i64 l[i].op),.s (.int .i64 l[i].stp.t),u8 l[i].stp.n,.list .sh 18 (l[i].l.map wA)]):=ixl_map h (by omega)
theorem w1_wk {a b:AV} {w:Wr}:WkF [a,b,.list .full 18 [.agg (wc w)]] [a,b,lstW [w]] := .same (.same (.wk (show WkL [.list .full 18 [wA w]] [lstW [w]] from .full .nil) .nil))
def AwSS (C:CallW) (f:FuncId):Prop:=∀S H (K:AV→St→Prop),(∀H',K (.bool true) ⟨S,H'⟩)→C (.fn f) [] ⟨S,H⟩ K
def kAa:Key:=(keyOf [97]).1
theorem aw_app:appQ [] ⟨2,0⟩ [⟨kAa,[120],false⟩]=(0,[(kAa,[⟨⟨2,0⟩,[120],false⟩])]):=by kernel_rfl
theorem aw_get1:getS [(kAa,[⟨⟨2,0⟩,[120],false⟩])] kAa ⟨1,9⟩=([],false):=by kernel_rfl
theorem aw_get2:getS [(kAa,[⟨⟨2,0⟩,[120],false⟩])] kAa ⟨2,0⟩=([120],true):=by kernel_rfl
set_option maxHeartbeats 8000000 in
theorem law12_awake_spec {C:CallW} (hW:WkC C) (P:Program) {c:Nat→FuncId} (h0:StNewS C (c 0)) (h1:AtS C (c 1)) (h2:kS C (c 2)) (h3:ApplyS C (c 3)) (h4:StGetS C (c 4)) (h5:StKeysS C (c 5)):∀S H (K:AV→St→Prop),(∀H',K (.bool true) ⟨S,H'⟩)→runL C P (Cz3 c) [] ⟨S,H⟩ K:=by
  intro S H K hK
  have hk:(keyOf [97]).1=kAa:=rfl
  simp only [Cz3,A_,simprocAttr,ne_eq,(Uz6 _).1]
  refine h0 _ _ _ fun H1 h O t1 _ => ?_
  simp only [Cz3,A_,simprocAttr,ne_eq,(Uz6 _).1,re1F]
  refine h1 2 _ _ _ ?_
  simp only [Cz3,A_,simprocAttr,ne_eq,(Uz6 _).1]
  refine h2 _ _ _ _ ?_
  rw [hk]
  simp only [Cz3,A_,simprocAttr,ne_eq,(Uz6 _).1]
  refine hW _ _ _ _ _ (w1_wk (w:=⟨kAa,[120],false⟩)) (h3 h [] O ⟨2,0⟩ [⟨kAa,[120],false⟩] _ _ _ t1 (by simp) (by simp) fun H2 O2 t2 _ => ?_)
  rw [aw_app] at t2 ⊢
  dsimp only at t2
  simp only [Cz3,A_,simprocAttr,ne_eq,(Uz6 _).1]
  refine h2 _ _ _ _ ?_
  rw [hk]
  have e19:[AV.s (.int .i64 1),.s (.int .u8 9)]=stc ⟨1,9⟩:=rfl
  simp only [Cz3,A_,simprocAttr,ne_eq,(Uz6 _).1,e19]
  refine h4 h _ O2 kAa ⟨1,9⟩ _ _ _ t2 fun G => ?_
  rw [aw_get1]
  simp only [Cz3,A_,simprocAttr,ne_eq,(Uz6 _).1]
  refine h2 _ _ _ _ ?_
  rw [hk]
  simp only [Cz3,A_,simprocAttr,ne_eq,(Uz6 _).1]
  refine h1 2 _ _ _ ?_
  simp only [Cz3,A_,simprocAttr,ne_eq,(Uz6 _).1]
  refine h4 h _ O2 kAa ⟨2,0⟩ _ _ _ t2.app fun G2 => ?_
  rw [aw_get2]
  simp only [Cz3,A_,simprocAttr,ne_eq,(Uz6 _).1]
  refine h5 h _ O2 _ _ _ t2.app (by simp) fun G3 => ?_
  have hl:(keysQ [(kAa,[(⟨⟨2,0⟩,[120],false⟩:Ver)])]).length=1:=by rw [(keysQ_perm _).length_eq]; rfl
  simp only [lstK,List.length_map,hl,Cz3,A_,simprocAttr,ne_eq,(Uz6 _).1]
  exact hK _
end Go.AM
namespace Go.AM
open Go
set_option maxRecDepth 20000
def QP (Q:Sto):Prop:=(Q.map Prod.fst).Nodup∧∀k,SorV (ofQ Q k)
theorem StA.qp {H:List HObj} {O:List Nat} {h:Nat} {Q:Sto} (t:StA H O h Q):QP Q:=by
  refine ⟨?_,fun k=>(ofQ_ok t k).1⟩
  obtain ⟨hm,l,t,rfl⟩:=t
  rw [List.map_map]
  exact t.nk
theorem find_of {Q:Sto} {k:Key} (h:ofQ Q k≠[]):∃p,Q.find? (fun p=>decide (p.1=k))=some p:=by
  unfold ofQ at h
  cases hf:Q.find? fun p=>decide (p.1=k) with
  | none=>rw [hf] at h; exact absurd rfl h
  | some p=>exact ⟨p,rfl⟩
theorem setQ_len1 {Q:Sto} {k:Key} {vs:List Ver} (h:ofQ Q k≠[]):(setQ Q k vs).length=Q.length:=by
  obtain ⟨p,hp⟩:=find_of h
  unfold setQ
  rw [hp]
  simp
theorem setQ_len0 (Q:Sto) (k:Key) (vs:List Ver):(setQ Q k vs).length≤Q.length + 1:=by
  unfold setQ
  split <;> simp
theorem room_len {Q:Sto} {s:Stp}:∀{l:List Wr} {n:Nat} {R:Sto},(∀w∈l,ofQ R w.key=ofQ Q w.key)→(l.map (·.key)).Nodup→R.length≤n→roomF Q n l=true→(l.foldl (stpA s) R).length≤200
  | [],n,R,_,_,hn,h=>by unfold roomF at h; have:=of_decide_eq_true h; show R.length≤200; omega
  | x :: l,n,R,hs,hd,hn,h=>by
    rw [List.map_cons,List.nodup_cons] at hd
    unfold roomF at h
    split at h
    · cases h
    rw [List.foldl_cons]
    refine room_len (fun w hw => ?_) hd.2 ?_ h
    · have hne:w.key≠x.key:=fun q=>hd.1 (q▸List.mem_map_of_mem hw)
      show ofQ (setQ R x.key _) w.key=_
      rw [ofQ_setQ,if_neg hne]
      exact hs w (List.mem_cons_of_mem _ hw)
    · have hx:=hs x List.mem_cons_self
      split
      · exact Nat.le_trans (setQ_len0 _ _ _) (by omega)
      · rename_i hne
        show (setQ R x.key _).length≤n
        rw [setQ_len1 (by rw [hx]; exact hne)]
        exact hn
theorem app_of (Q:Sto) (s:Stp) (l:List Wr):((appQ Q s l).1≠0∧(appQ Q s l).2=Q)∨((appQ Q s l).1=0∧(appQ Q s l).2=l.foldl (stpA s) Q∧goodS s=true∧l.length≤16∧(l.map (·.key)).Nodup∧(∀w∈l,okV (verW s w)=true)∧(∀w∈l,hasV (ofQ Q w.key) s=false)∧roomB Q l=true):=by
  unfold appQ
  split
  · exact .inl ⟨by simp,rfl⟩
  rename_i h1
  split
  · exact .inl ⟨by simp,rfl⟩
  rename_i h2
  split
  · exact .inl ⟨by simp,rfl⟩
  rename_i h3
  simp only [Bool.not_eq_false,Bool.and_eq_true,decide_eq_true_eq] at h1
  simp only [Bool.not_eq_true] at h2
  simp only [Bool.not_eq_false] at h3
  exact .inr ⟨rfl,rfl,h1.1.1,h1.1.2.2,(sgood_split l [] h1.2).1,sgood_okV l [] h1.1.1 h1.2,fun w hw=>by have:=List.any_eq_false.1 h2 w hw; simpa using this,h3⟩
theorem app_200 {Q:Sto} {s:Stp} {l:List Wr} (h:Q.length≤200):(appQ Q s l).2.length≤200:=by
  rcases app_of Q s l with ⟨_,e⟩ | ⟨_,e,_,_,hn,_,_,hr⟩
  · rw [e]; exact h
  · rw [e]; exact room_len (fun w _=>rfl) hn (Nat.le_refl _) hr
theorem scanF_eq (Q:Sto) (a b:Key) (s:Stp):∀(ks:List Key) (acc:List It),acc.length + ks.length≤300→scanF Q a b s 300 acc ks=acc ++ (ks.filter fun k=>withinK k a b && (getS Q k s).2).map fun k=>⟨k,(getS Q k s).1⟩
  | [],acc,_=>by simp [scanF]
  | k :: ks,acc,h=>by
    rw [List.length_cons] at h
    unfold scanF
    rw [if_neg (by omega)]
    cases hw:withinK k a b with
    | false =>
      rw [if_pos rfl,scanF_eq Q a b s ks acc (by omega),List.filter_cons_of_neg (by simp [hw])]
    | true =>
      rw [if_neg (by simp)]
      cases hg:(getS Q k s).2 with
      | false=>rw [if_neg (by simp),scanF_eq Q a b s ks acc (by omega),List.filter_cons_of_neg (by simp [hg])]
      | true =>
        rw [if_pos rfl,scanF_eq Q a b s ks _ (by simp; omega),List.filter_cons_of_pos (by simp [hw,hg])]
        simp
def scanK (Q:Sto) (a b:Key) (s:Stp):List Key:=(keysQ Q).filter fun k=>withinK k a b && (getS Q k s).2
theorem scanQ_eq {Q:Sto} (a b:Key) (s:Stp) (h:Q.length≤200):scanQ Q a b s 300=(scanK Q a b s).map fun k=>⟨k,(getS Q k s).1⟩:=by
  unfold scanQ
  rw [scanF_eq Q a b s _ _ (by have:=(keysQ_perm Q).length_eq; rw [List.length_map] at this; simp; omega)]
  rfl
theorem keysQ_nodup {Q:Sto} (h:QP Q):(keysQ Q).Nodup:=(keysQ_perm Q).nodup_iff.2 h.1
theorem get_key {Q:Sto} {k:Key} {s:Stp} (h:(getS Q k s).2=true):k∈keysQ Q:=by
  refine (keysQ_perm Q).mem_iff.2 ?_
  have:ofQ Q k≠[]:=fun e=>by
    unfold getS at h
    rw [e] at h
    cases h
  obtain ⟨p,hp⟩:=find_of this
  have h1:=List.mem_of_find?_eq_some hp
  have h2:p.1=k:=by have:=List.find?_some hp; exact of_decide_eq_true this
  exact h2▸List.mem_map_of_mem h1
theorem scanK_mem {Q:Sto} {a b:Key} {s:Stp} {k:Key}:k∈scanK Q a b s↔withinK k a b=true∧(getS Q k s).2=true:=by
  unfold scanK
  rw [List.mem_filter,Bool.and_eq_true]
  exact ⟨fun h=>h.2,fun h=>⟨get_key h.2,h⟩⟩
theorem scanK_nodup {Q:Sto} (h:QP Q) (a b:Key) (s:Stp):(scanK Q a b s).Nodup:=(keysQ_nodup h).sublist List.filter_sublist
theorem scanK_le (Q:Sto) (a b:Key) (s:Stp):(scanK Q a b s).Pairwise fun x y=>cmpK x y≤0:=(keysQ_le Q).sublist List.filter_sublist
end Go.AM
namespace Go.AM
open Go
set_option maxRecDepth 20000
def LongS12 (C:CallW) (f:FuncId):Prop:=∀(l:List Wr) S H (K:AV→St→Prop),l.length≤9223372036854775807→K (.bool (long14 l)) ⟨S,H⟩→C (.fn f) [lstW l] ⟨S,H⟩ K
theorem long_no {l:List Wr} (h:long14 l=false):l.length≤20:=by
  unfold long14 at h
  simp only [Bool.or_eq_false_iff,decide_eq_false_iff_not] at h
  omega
end Go.AM
namespace Go.AM
open Go
set_option maxRecDepth 20000
theorem scanK_lt {Q:Sto} (h:QP Q) (a b:Key) (s:Stp):(scanK Q a b s).Pairwise fun x y=>cmpK x y < 0:=by
  have h1:=scanK_le Q a b s
  have h2:=scanK_nodup h a b s
  rw [List.pairwise_iff_getElem] at h1 ⊢
  intro i j hi hj hij
  have:=h1 i j hi hj hij
  have hne:=List.pairwise_iff_getElem.1 h2 i j hi hj hij
  have:cmpK (scanK Q a b s)[i] (scanK Q a b s)[j]≠0:=fun e=>hne ((cmpK_eq _ _).1 e)
  omega
theorem within_iff {k a b:Key}:withinK k a b=true↔cmpK a k≤0∧(b=key0∨cmpK k b < 0):=by
  have:=cmp_flip a k
  unfold withinK
  rw [Bool.and_eq_true,Bool.or_eq_true,decide_eq_true_eq,decide_eq_true_eq,decide_eq_true_eq]
  constructor
  · rintro ⟨h1,h2⟩; exact ⟨by omega,h2⟩
  · rintro ⟨h1,h2⟩; exact ⟨by omega,h2⟩
theorem cmpK_trans_lt {a b c:Key} (h1:cmpK a b < 0) (h2:cmpK b c≤0):cmpK a c < 0:=cmp_lt h1 h2
theorem scan_split {Q:Sto} {a m b:Key} {s:Stp} (h:QP Q) (hq:Q.length≤200) (h1:¬cmpK m a < 0) (h2:b=key0∨¬0 < cmpK m b) (h3:m≠key0):scanQ Q a b s 300=scanQ Q a m s 300 ++ scanQ Q m b s 300:=by
  rw [scanQ_eq _ _ _ hq,scanQ_eq _ _ _ hq,scanQ_eq _ _ _ hq,←List.map_append]
  congr 1
  have cross:∀x∈scanK Q a m s,∀y∈scanK Q m b s,cmpK x y < 0:=fun x hx y hy=>by
    have hx:=within_iff.1 (scanK_mem.1 hx).1
    have hy:=within_iff.1 (scanK_mem.1 hy).1
    rcases hx.2 with e | e
    · exact absurd e h3
    · exact cmpK_trans_lt e hy.1
  refine sorted_same ((List.perm_ext_iff_of_nodup (scanK_nodup h a b s) ?_).2 fun k => ?_) (scanK_le _ _ _ _) ?_
  · rw [List.nodup_append]
    exact ⟨scanK_nodup h a m s,scanK_nodup h m b s,fun x hx y hy e=>by
      have:=cross x hx y hy
      rw [e,cmpK_refl] at this; omega⟩
  · rw [List.mem_append,scanK_mem,scanK_mem,scanK_mem,within_iff,within_iff,within_iff]
    constructor
    · rintro ⟨⟨q1,q2⟩,q3⟩
      by_cases c:cmpK k m < 0
      · exact .inl ⟨⟨q1,.inr c⟩,q3⟩
      · have:=cmp_flip m k
        exact .inr ⟨⟨by omega,q2⟩,q3⟩
    · rintro (⟨⟨q1,q2⟩,q3⟩ | ⟨⟨q1,q2⟩,q3⟩)
      · refine ⟨⟨q1,?_⟩,q3⟩
        rcases h2 with h2 | h2
        · exact .inl h2
        · rcases q2 with q2 | q2
          · exact absurd q2 h3
          · exact .inr (cmpK_trans_lt q2 (by omega))
      · have:=cmp_flip m a
        exact ⟨⟨cmp_le (by omega) q1,q2⟩,q3⟩
  · rw [List.pairwise_append]
    exact ⟨scanK_le _ _ _ _,scanK_le _ _ _ _,fun x hx y hy=>Int.le_of_lt (cross x hx y hy)⟩
theorem scan_len {Q:Sto} {a b:Key} {s:Stp} (hq:Q.length≤200):(scanQ Q a b s 300).length≤200:=by
  rw [scanQ_eq _ _ _ hq,List.length_map]
  have:=(List.filter_sublist (p:=fun k=>withinK k a b && (getS Q k s).2) (l:=keysQ Q)).length_le
  have e:=(keysQ_perm Q).length_eq
  rw [List.length_map] at e
  unfold scanK; omega
theorem scan_at {Q:Sto} {a b:Key} {s:Stp} (h:QP Q) (hq:Q.length≤200) {i:Nat} (hi:i < (scanQ Q a b s 300).length):getS Q (scanQ Q a b s 300)[i].key s=((scanQ Q a b s 300)[i].val,true)∧withinK (scanQ Q a b s 300)[i].key a b=true∧∀(h0:0 < i),cmpK (scanQ Q a b s 300)[i - 1].key (scanQ Q a b s 300)[i].key < 0:=by
  have e:=scanQ_eq a b s hq
  have hi':i < (scanK Q a b s).length:=by rw [e,List.length_map] at hi; exact hi
  have ek:∀j (hj:j < (scanQ Q a b s 300).length) (hj':j < (scanK Q a b s).length),(scanQ Q a b s 300)[j]=⟨(scanK Q a b s)[j],(getS Q (scanK Q a b s)[j] s).1⟩:=fun j hj hj'=>by
    simp only [e,List.getElem_map]
  rw [ek i hi hi']
  have hm:=scanK_mem.1 (List.getElem_mem hi')
  refine ⟨Prod.ext rfl hm.2,hm.1,fun h0 => ?_⟩
  rw [ek (i - 1) (by omega) (by omega)]
  exact List.pairwise_iff_getElem.1 (scanK_lt h a b s) (i - 1) i (by omega) hi' (by omega)
theorem app_sc {A B:List It} {v:AV} (h:ScV A v) (hl:A.length + B.length≤1000000):∃v3,ScV (A ++ B) v3∧∀(e:ET) (σ:St),e.c=17→e.bytes=32→appendL e false v (.list .sh 17 (B.map itA)) σ=some (v3,σ):=by
  have hlow:AV.under.go 0 (B.map itA)=true:=itA_low
  by_cases hB:B=[]
  · subst hB
    rcases h with ⟨rfl,rfl⟩ | rfl | rfl
    · exact ⟨.s .nilS,.inl ⟨rfl,rfl⟩,fun e σ h1 h2=>by simp [appendL,srcL,AV.isSlice,elemsL,appItems,h1,AV.under.go,AV.nilS]⟩
    · exact ⟨_,.inr (.inl rfl),fun e σ h1 h2=>by simp [appendL,srcL,AV.isSlice,elemsL,appItems,h1,AV.under.go]⟩
    · exact ⟨_,.inr (.inr rfl),fun e σ h1 h2=>by simp [appendL,srcL,AV.isSlice,elemsL,appItems,h1,AV.under.go]⟩
  · have hB':(B.map itA).isEmpty=false:=by cases B with | nil=>exact absurd rfl hB | cons _ _=>rfl
    rcases h with ⟨rfl,rfl⟩ | rfl | rfl
    · refine ⟨_,.inr (.inl rfl),fun e σ h1 h2 => ?_⟩
      have hb:B.length * 32≤281474976710656:=by simp at hl; omega
      simp [appendL,srcL,AV.isSlice,elemsL,appItems,h1,h2,hlow,hB,hb]
    · refine ⟨_,.inr (.inl rfl),fun e σ h1 h2 => ?_⟩
      have hb:2 * (A.length + B.length) * 32≤281474976710656:=by omega
      simp [appendL,srcL,AV.isSlice,elemsL,appItems,h1,h2,hlow,hB,hb]
    · refine ⟨_,.inr (.inr rfl),fun e σ h1 h2 => ?_⟩
      have hb:2 * (A.length + B.length) * 32≤281474976710656:=by omega
      simp [appendL,srcL,AV.isSlice,elemsL,appItems,h1,h2,hlow,hB,hb]
end Go.AM
namespace Go.AM
open Go
open AV renaming undef → uu
set_option maxRecDepth 20000
theorem tk4 {α:Type} {S:List α} {a b c d:α}:(S ++ [a,b,c,d]).take (S.length + 4)=S ++ [a,b,c,d]:=List.take_of_length_le (by simp)
set_option maxHeartbeats 16000000 in
theorem StoreScans_spec {C:CallW} (hC:LeC C C) (hW:WkC C) (P:Program) {c:Nat→FuncId} (h0:AwSS C (c 0)) (h1:StNewS C (c 1)) (h2:LongS12 C (c 2)) (h3:ApplyS C (c 3)) (h4:ScanRS C (c 4)) (h4r:ScanS C (c 4)) (h5:StGetS C (c 5)) (h6:WithinS C (c 6)) (h7:KCmp C (c 7)) (h8:EqItS C (c 8)):∀(l:List SAct) (fr mid to:Key) (w:Stp) S H (K:AV→St→Prop),l.length≤9223372036854775807→(∀a∈l,a.l.length≤9223372036854775807)→(∀H',K (.bool true) ⟨S,H'⟩)→runL C P (Czc c) [.list .sh 4 (l.map sacA),.agg (bs fr.b),.agg (bs mid.b),.agg (bs to.b),.agg (stc w)] ⟨S,H⟩ K:=by
  intro l fr mid to w S H K hl hlw hK
  have h2':=fun l=>h2 l
  simp only [lstW] at h2'
  have h3':=fun h Q O s l=>h3 h Q O s l
  simp only [lstW,stc] at h3'
  have h4':=fun h Q O a b s m=>h4 h Q O a b s m
  have h4r':=fun h Q O a b s m=>h4r h Q O a b s m
  have h5':=fun h Q O k s=>h5 h Q O k s
  simp only [stc] at h4' h4r' h5'
  simp only [Czc,A_,simprocAttr,ne_eq,(Uz0 _).1]
  refine h0 _ _ _ fun H1 => ?_
  by_cases g1:20 < l.length
  · have g1':(20:Int) < (l.length:Int):=by omega
    simp only [Czc,A_,simprocAttr,ne_eq,(Uz0 _).1,CHK_,Nat.reduceBEq,g1']
    exact hK _
  have g1':¬(20:Int) < (l.length:Int):=by omega
  simp only [Czc,A_,simprocAttr,ne_eq,(Uz0 _).1,CHK_,Nat.reduceBEq,g1']
  refine h1 _ _ _ fun H2 h O0 t0 _ => ?_
  simp only [stc,Czc,A_,simprocAttr,ne_eq,(Uz0 _).1,CHK_,Nat.reduceBEq]
  refine loop_rule hC (α:=Nat×List HObj×List Nat) (fun a=>l.length - a.1) (fun a=>[.list .sh 4 (l.map sacA),uu,uu,uu,uu,uu,.ptr (.stk S.length) 0,.ptr (.stk (S.length + 1)) 0,.ptr (.stk (S.length + 2)) 0,.ptr (.stk (S.length + 3)) 0,.undef,.ptr (.heap h) 0,.s (.int .i64 a.1),uu,uu,uu,uu,uu,uu,uu,uu,uu,uu,uu,uu,uu,uu,uu,uu,uu,uu,uu,uu,uu,uu,uu,uu,uu,uu,uu,uu,uu,uu,uu,uu,uu,uu,uu,uu,uu,uu,uu,uu,uu,uu,uu,uu,uu,uu,uu,uu,uu,uu,uu,uu,uu,uu,uu,uu,uu,uu,uu,uu,uu,uu,uu,uu,uu,uu,uu,uu,uu,uu,uu,uu,uu,uu,uu,uu,uu,uu,uu,uu,uu,uu,uu,uu,uu,uu,uu,uu,uu,uu,uu,uu,uu,uu,uu,uu,uu,uu,uu,uu,uu,uu,uu,uu,uu,uu,uu,uu,uu,uu,uu,uu,uu,uu,uu,uu,uu,uu,uu,uu,uu,uu,uu,uu,uu,uu,uu,uu,uu,uu,uu,uu,uu,uu,uu,uu,uu]) (fun _=>S ++ [bs fr.b,bs mid.b,bs to.b,stc w]) (fun a=>a.2.1) (fun a=>a.1≤l.length∧∃Q,StA a.2.1 a.2.2 h Q∧Q.length≤200) (0,H2,O0) ⟨by simp,[],t0,by simp⟩ rfl tk4 rfl (fun a _=>by simp [AV.under,AV.under.go]) ?_
  rintro ⟨i,Hx,Ox⟩ ⟨hi,Q,tx,hq⟩ ih
  dsimp only at hi tx hq
  by_cases h16:i < l.length
  · have hlt:((i:Int) < (l.length:Int)):=by omega
    have hw:IntKind.i64.wrap ((i:Int) + 1)=(i:Int) + 1:=wrap_i64 (by omega) (by omega)
    simp only [stc,A_,simprocAttr,ne_eq,(Uz0 _).1,CHK_,Nat.reduceBEq,hlt,h16,ixl_sac]
    refine h2' (l[i]).l _ _ _ (hlw _ (List.getElem_mem h16)) ?_
    cases hlg:long14 (l[i]).l with
    | true =>
      simp only [stc,A_,simprocAttr,ne_eq,(Uz0 _).1,CHK_,Nat.reduceBEq]
      exact hK _
    | false =>
      simp only [stc,A_,simprocAttr,ne_eq,(Uz0 _).1,CHK_,Nat.reduceBEq,h16,ixl_sac]
      refine h3' h Q Ox (l[i]).stp (l[i]).l _ _ _ tx (by omega) (by have:=long_no hlg; omega) fun H' O' t' _ => ?_
      simp only [stc,A_,simprocAttr,ne_eq,(Uz0 _).1,CHK_,Nat.reduceBEq,hw]
      exact ih (i + 1,H',O') _ _ _ (by show l.length - (i + 1) < l.length - i; omega) ⟨by show i + 1≤l.length; omega,_,t',app_200 hq⟩ rfl tk4 rfl
  · have hlt:¬((i:Int) < (l.length:Int)):=by omega
    have qp:=tx.qp
    simp only [stc,A_,simprocAttr,ne_eq,(Uz0 _).1,CHK_,Nat.reduceBEq,hlt]
    refine h4r' h Q Ox fr to w 300 _ _ _ tx (by omega) fun G1 => ?_
    obtain ⟨x,hx,hxl,hat,hsp⟩:∃x:List It,scanQ Q fr to w 300=x∧x.length≤200∧(∀i (hi:i < x.length),getS Q x[i].key w=(x[i].val,true)∧withinK x[i].key fr to=true∧∀(h0:0 < i),cmpK x[i - 1].key x[i].key < 0)∧(¬cmpK mid fr < 0→(to=key0∨¬0 < cmpK mid to)→mid≠key0→x=scanQ Q fr mid w 300 ++ scanQ Q mid to w 300):=⟨_,rfl,scan_len hq,fun i hi=>scan_at qp hq hi,scan_split qp hq⟩
    rw [hx]
    simp only [lstIt,stc,A_,simprocAttr,ne_eq,(Uz0 _).1,CHK_,Nat.reduceBEq]
    refine loop_rule hC (α:=Nat×List HObj) (fun a=>x.length - a.1) (fun a=>[uu,uu,uu,uu,uu,uu,.ptr (.stk S.length) 0,.ptr (.stk (S.length + 1)) 0,.ptr (.stk (S.length + 2)) 0,.ptr (.stk (S.length + 3)) 0,.undef,.ptr (.heap h) 0,.undef,.list .sh 17 (x.map itA),.s (.int .i64 a.1),uu,uu,uu,uu,uu,uu,uu,uu,uu,uu,uu,uu,uu,uu,uu,uu,uu,uu,uu,uu,uu,uu,uu,uu,uu,uu,uu,uu,uu,uu,uu,uu,uu,uu,uu,uu,uu,uu,uu,uu,uu,uu,uu,uu,uu,uu,uu,uu,uu,uu,uu,uu,uu,uu,uu,uu,uu,uu,uu,uu,uu,uu,uu,uu,uu,uu,uu,uu,uu,uu,uu,uu,uu,uu,uu,uu,uu,uu,uu,uu,uu,uu,uu,uu,uu,uu,uu,uu,uu,uu,uu,uu,uu,uu,uu,uu,uu,uu,uu,uu,uu,uu,uu,uu,uu,uu,uu,uu,uu,uu,uu,uu,uu,uu,uu,uu,uu,uu,uu,uu,uu,uu,uu,uu,uu,uu,uu,uu,uu,uu,uu,uu,uu,uu,uu]) (fun _=>S ++ [bs fr.b,bs mid.b,bs to.b,stc w]) (fun a=>Hx ++ a.2) (fun a=>a.1≤x.length) (0,G1) (by simp) rfl tk4 rfl (fun a _=>by simp [AV.under,AV.under.go]) ?_
    rintro ⟨j,G⟩ hj ih2
    dsimp only at hj
    by_cases h17:j < x.length
    · have hlt:((j:Int) < (x.length:Int)):=by omega
      have hw:IntKind.i64.wrap ((j:Int) + 1)=(j:Int) + 1:=wrap_i64 (by omega) (by omega)
      obtain ⟨a1,a2,a3⟩:=hat j h17
      have x1:∀k:IntKind,indexAddrL (.sl 17) (.list .sh 17 (x.map itA)) (.s (.int k (j:Int)))=some (.rop (itc x[j])):=fun k=>ixl_it h17 (by omega)
      simp only [stc,A_,simprocAttr,ne_eq,(Uz0 _).1,CHK_,Nat.reduceBEq,IT_,hlt,h17,x1]
      refine h5' h Q Ox x[j].key w _ _ _ tx.app fun G2 => ?_
      rw [a1]
      simp only [stc,A_,simprocAttr,ne_eq,(Uz0 _).1,CHK_,Nat.reduceBEq,IT_,hlt,h17,x1]
      refine h6 _ _ _ _ _ _ ?_
      rw [a2]
      by_cases hj0:0 < j
      · have hj0':(0:Int) < (j:Int):=by omega
        have hw3:IntKind.i64.wrap ((j:Int) - 1)=((j - 1:Nat):Int):=by rw [wrap_i64 (by omega) (by omega)]; omega
        have x2:∀k:IntKind,indexAddrL (.sl 17) (.list .sh 17 (x.map itA)) (.s (.int k ((j - 1:Nat):Int)))=some (.rop (itc x[j - 1])):=fun k=>ixl_it (by omega) (by omega)
        simp only [stc,A_,simprocAttr,ne_eq,(Uz0 _).1,CHK_,Nat.reduceBEq,IT_,hlt,h17,x1,hj0',hw3,x2]
        refine h7 _ _ _ _ _ ?_
        have hc:¬(0:Int)≤Lib.compareBytes x[j - 1].key.b x[j].key.b:=by have:=a3 hj0; unfold cmpK at this; omega
        simp only [stc,A_,simprocAttr,ne_eq,(Uz0 _).1,CHK_,Nat.reduceBEq,IT_,hlt,h17,x1,hc,hw]
        exact ih2 (j + 1,G ++ G2) _ _ _ (by show x.length - (j + 1) < x.length - j; omega) (by show j + 1≤x.length; omega) rfl tk4 (by simp)
      · have hj0':¬(0:Int) < (j:Int):=by omega
        simp only [stc,A_,simprocAttr,ne_eq,(Uz0 _).1,CHK_,Nat.reduceBEq,IT_,hlt,h17,x1,hj0',hw]
        exact ih2 (j + 1,G ++ G2) _ _ _ (by show x.length - (j + 1) < x.length - j; omega) (by show j + 1≤x.length; omega) rfl tk4 (by simp)
    · have hlt:¬((j:Int) < (x.length:Int)):=by omega
      simp only [stc,A_,simprocAttr,ne_eq,(Uz0 _).1,CHK_,Nat.reduceBEq,hlt]
      refine h7 _ _ _ _ _ ?_
      by_cases c1:cmpK mid fr < 0
      · have c1':Lib.compareBytes mid.b fr.b < 0:=c1
        simp only [stc,A_,simprocAttr,ne_eq,(Uz0 _).1,CHK_,Nat.reduceBEq,c1']
        exact hK _
      have c1':¬Lib.compareBytes mid.b fr.b < 0:=c1
      simp only [stc,A_,simprocAttr,ne_eq,(Uz0 _).1,CHK_,Nat.reduceBEq,c1']
      by_cases ht:to=key0
      · have ht':=eq_true ht
        simp only [stc,A_,simprocAttr,ne_eq,(Uz0 _).1,CHK_,Nat.reduceBEq,ht']
        by_cases hm:mid=key0
        · have hm':=eq_true hm
          simp only [stc,A_,simprocAttr,ne_eq,(Uz0 _).1,CHK_,Nat.reduceBEq,hm']
          exact hK _
        · have hm':=eq_false hm
          simp only [stc,A_,simprocAttr,ne_eq,(Uz0 _).1,CHK_,Nat.reduceBEq,hm']
          have hs:=hsp c1 (.inl ht) hm
          have hla:=scan_len (a:=fr) (b:=mid) (s:=w) hq
          have hlb:=scan_len (a:=mid) (b:=to) (s:=w) hq
          refine h4' h Q Ox fr mid w 300 _ _ _ tx.app (by omega) fun v1 G2 hv1 => ?_
          simp only [stc,A_,simprocAttr,ne_eq,(Uz0 _).1,CHK_,Nat.reduceBEq]
          refine h4r' h Q Ox mid to w 300 _ _ _ tx.app (by omega) fun G3 => ?_
          obtain ⟨v3,hv3,ha⟩:=app_sc (B:=scanQ Q mid to w 300) hv1 (by omega)
          rw [←hs] at hv3
          simp only [lstIt,stc,A_,simprocAttr,ne_eq,(Uz0 _).1,CHK_,Nat.reduceBEq,ha]
          by_cases hmt:mid=to
          · have hmt':=eq_true hmt
            simp only [stc,A_,simprocAttr,ne_eq,(Uz0 _).1,CHK_,Nat.reduceBEq,hmt']
            exact hK _
          · have hmt':=eq_false hmt
            simp only [stc,A_,simprocAttr,ne_eq,(Uz0 _).1,CHK_,Nat.reduceBEq,hmt']
            refine hW _ _ [lstIt x,lstIt x] _ _ (.same (.wk hv3.wk .nil)) (h8 x x _ _ _ (by omega) (by omega) ?_)
            rw [decide_eq_true rfl]
            simp only [stc,A_,simprocAttr,ne_eq,(Uz0 _).1,CHK_,Nat.reduceBEq]
            exact hK _
      · have ht':=eq_false ht
        simp only [stc,A_,simprocAttr,ne_eq,(Uz0 _).1,CHK_,Nat.reduceBEq,ht']
        refine h7 _ _ _ _ _ ?_
        by_cases c2:0 < cmpK mid to
        · have c2':0 < Lib.compareBytes mid.b to.b:=c2
          simp only [stc,A_,simprocAttr,ne_eq,(Uz0 _).1,CHK_,Nat.reduceBEq,c2']
          exact hK _
        · have c2':¬0 < Lib.compareBytes mid.b to.b:=c2
          simp only [stc,A_,simprocAttr,ne_eq,(Uz0 _).1,CHK_,Nat.reduceBEq,c2']
          by_cases hm:mid=key0
          · have hm':=eq_true hm
            simp only [stc,A_,simprocAttr,ne_eq,(Uz0 _).1,CHK_,Nat.reduceBEq,hm']
            exact hK _
          · have hm':=eq_false hm
            simp only [stc,A_,simprocAttr,ne_eq,(Uz0 _).1,CHK_,Nat.reduceBEq,hm']
            have hs:=hsp c1 (.inr c2) hm
            have hla:=scan_len (a:=fr) (b:=mid) (s:=w) hq
            have hlb:=scan_len (a:=mid) (b:=to) (s:=w) hq
            refine h4' h Q Ox fr mid w 300 _ _ _ tx.app (by omega) fun v1 G2 hv1 => ?_
            simp only [stc,A_,simprocAttr,ne_eq,(Uz0 _).1,CHK_,Nat.reduceBEq]
            refine h4r' h Q Ox mid to w 300 _ _ _ tx.app (by omega) fun G3 => ?_
            obtain ⟨v3,hv3,ha⟩:=app_sc (B:=scanQ Q mid to w 300) hv1 (by omega)
            rw [←hs] at hv3
            simp only [lstIt,stc,A_,simprocAttr,ne_eq,(Uz0 _).1,CHK_,Nat.reduceBEq,ha]
            by_cases hmt:mid=to
            · have hmt':=eq_true hmt
              simp only [stc,A_,simprocAttr,ne_eq,(Uz0 _).1,CHK_,Nat.reduceBEq,hmt']
              exact hK _
            · have hmt':=eq_false hmt
              simp only [stc,A_,simprocAttr,ne_eq,(Uz0 _).1,CHK_,Nat.reduceBEq,hmt']
              refine hW _ _ [lstIt x,lstIt x] _ _ (.same (.wk hv3.wk .nil)) (h8 x x _ _ _ (by omega) (by omega) ?_)
              rw [decide_eq_true rfl]
              simp only [stc,A_,simprocAttr,ne_eq,(Uz0 _).1,CHK_,Nat.reduceBEq]
              exact hK _
end Go.AM
namespace Go.AM
open Go
section
variable {H:Type} {enc:TypeId×Value→H} {P:Program} {w:World} {sp:Nat→Bool} {held:Bool}
theorem of_each {α β:Type} {f:β→α}:∀(l:List α),(∀x∈l,∃b,x=f b)→∃bs:List β,l=bs.map f
  | [],_=>⟨[],rfl⟩
  | x :: l,h=>by
    obtain ⟨b,rfl⟩:=h x List.mem_cons_self
    obtain ⟨bs,rfl⟩:=of_each l fun y hy=>h y (List.mem_cons_of_mem _ hy)
    exact ⟨b :: bs,rfl⟩
theorem trodAll_stays {W W' : World} (hl : laidOutB P = true) (hb : RowKit.Below W.heap.size W W') : ∀ {ts : List TypeId} {vs : List Value} {ds : List (DataW H)} {ps : List MemPlace}, (∀ t ∈ ts, P.readableRec t = true ∧ t < P.types.size) →
    DataW.TrodAll enc P W 0 (fun _=>true) true ts vs ds ps→DataW.TrodAll enc P W' 0 (fun b=>decide (b < W.heap.size)) true ts vs ds ps
  | [],[],[],_,_,h=>h
  | t :: ts,v :: vs,d :: ds,ps,ht,⟨p,q,h1,h2,e⟩=>by
    obtain ⟨n,hn⟩:=h1
    exact ⟨p,q,RowKit.Below.trod hl (ht t List.mem_cons_self).1 (ht t List.mem_cons_self).2 ⟨n,hn⟩ hb (DataW.trod_lt n _ _ _ hn),trodAll_stays hl hb (fun t h=>ht t (List.mem_cons_of_mem _ h)) h2,e⟩
  | [],[],_ :: _,_,_,h=>h.elim
  | [],_ :: _,_,_,_,h=>h.elim
  | _ :: _,[],_,_,_,h=>h.elim
  | _ :: _,_ :: _,[],_,_,h=>h.elim
end
end Go.AM
namespace Go.AM
open Go
section
variable {H:Type} {enc:TypeId×Value→H} {P:Program} {w:World} {sp:Nat→Bool} {held:Bool}
def contig (P:Program):List Field→Nat→Nat→Bool
  | [],o,tot=>o == tot
  | f :: l,o,tot=>f.offset == o && contig P l (o + P.cellsOf f.type) tot
def plainT (P:Program):Nat→TypeId→Bool
  | 0,_=>false
  | d + 1,t=>match P.underlying t with
    | some .bool | some (.int _) | some .string=>true
    | some (.slice e)=>decide (0 < P.cellsOf e) && (isAgg P e || P.cellsOf e == 1) && plainT P d e
    | some (.struct fs)=>contig P fs.toList 0 (P.cellsOf t) && fs.toList.all fun f=>plainT P d f.type
    | some (.array m e)=>P.cellsOf t == m * P.cellsOf e && plainT P d e
    | _=>false
def shp (P:Program):Nat→TypeId→List AV→Prop
  | 0,_,_=>False
  | d + 1,t,azz=>match P.underlying t with
    | some .bool=>∃b,azz=[.s (.bool b)]
    | some (.int k)=>∃i,azz=[.s (.int k i)]∧(Lit.int k i).wf=true
    | some .string=>∃l,azz=[.s (.str l)]∧l.length≤maxLen
    | some (.slice e)=>∃es:List AV,azz=[.list .sh (P.cellsOf e) es]∧es.length≤maxLen∧∀x∈es,shp P d e x.cells∧(isAgg P e=true→x = .agg x.cells)∧(isAgg P e=false→x.cells=[x])
    | some (.struct fs)=>fs.toList.foldr (fun f (Q:List AV→Prop) azz=>∃a b,azz=a ++ b∧shp P d f.type a∧Q b) (fun azz=>azz=[]) azz
    | some (.array m e)=>∃ps:List (List AV),ps.length=m∧azz=ps.flatten∧∀p∈ps,shp P d e p
    | _=>False
structure Tells (w:World) (azz:List AV) (cs:List Value):Prop where
  vl:VL G.none w azz cs
  cell:∀c∈azz,c.isCell=true
  low:AV.under.go 0 azz=true
theorem Tells.nil:Tells w [] []:=⟨.nil,(fun _ h=>by cases h),rfl⟩
theorem Tells.app {a b:List AV} {c d:List Value} (h:Tells w a c) (h':Tells w b d):Tells w (a ++ b) (c ++ d) :=
  ⟨h.vl.app h'.vl,fun x hx=>(List.mem_append.1 hx).elim (h.cell x) (h'.cell x),by rw [under_app',h.low,h'.low]; rfl⟩
theorem Tells.flat:∀{ps:List (List AV)} {qs:List (List Value)},ps.length=qs.length→(∀(i:Nat) (p:List AV) (q:List Value),ps[i]? = some p→qs[i]? = some q→Tells w p q)→Tells w ps.flatten qs.flatten
  | [],[],_,_ => .nil
  | [],_ :: _,h,_=>by simp at h
  | _ :: _,[],h,_=>by simp at h
  | p :: ps,q :: qs,h,hall=>by
    rw [List.flatten_cons,List.flatten_cons]
    exact (hall 0 p q rfl rfl).app (Tells.flat (by simpa using h) fun i a b ha hb=>hall (i + 1) a b (by simpa using ha) (by simpa using hb))
theorem Tells.sc (x:Sc):Tells w [.s x] [x.toV]:=⟨.sc x .nil,fun c hc=>by rw [List.mem_singleton.1 hc]; rfl,rfl⟩
theorem lies_flat {b c:Nat}:∀(qs:List (List Value)) (off:Nat),(∀i q,qs[i]? = some q→w.cells? 0 ⟨b,off + i * c,none⟩ c=some q)→∀j v,qs.flatten[j]? = some v→w.cell? ⟨b,off + j,none⟩=some v
  | [],off,_,j,v,h=>by simp at h
  | q :: qs,off,hall,j,v,h=>by
    have hk:=hall 0 q rfl
    rw [Nat.zero_mul,Nat.add_zero] at hk
    have hs:=World.cells?_some hk
    rw [List.flatten_cons] at h
    by_cases hj:j < c
    · rw [List.getElem?_append_left (by omega)] at h
      have:=hs.2.2 j hj
      rw [Addr.add_lit] at this
      rw [this]; exact h
    · rw [List.getElem?_append_right (by omega),hs.2.1] at h
      have:=lies_flat qs (off + c) (fun i q hi=>by
        have:=hall (i + 1) q (by simpa using hi)
        rw [show off + c + i * c=off + (i + 1) * c by rw [Nat.add_mul]; omega]
        exact this) (j - c) v h
      rwa [show off + c + (j - c)=off + j by omega] at this
theorem choose_list {β:Type} {n:Nat} {p:Nat→β→Prop} (h:∀i,i < n→∃b,p i b):∃l:List β,l.length=n∧∀i b,l[i]? = some b→p i b:=by
  induction n with
  | zero=>exact ⟨[],rfl,fun i b h=>by simp at h⟩
  | succ n ih =>
    obtain ⟨l,hl,hall⟩:=ih fun i hi=>h i (by omega)
    obtain ⟨b,hb⟩:=h n (by omega)
    refine ⟨l ++ [b],by simp [hl],fun i c hc => ?_⟩
    by_cases hi:i < l.length
    · rw [List.getElem?_append_left hi] at hc; exact hall i c hc
    · rw [List.getElem?_append_right (by omega)] at hc
      have:i=n:=by
        have:=(List.getElem?_eq_some_iff.1 hc).1
        simp at this; omega
      subst this
      rw [hl,Nat.sub_self] at hc
      injection hc with hc; subst hc; exact hb
def elemA (ag:Bool) (azz:List AV):AV:=match ag with
  | true => .agg azz
  | false=>azz.getD 0 .undef
theorem elemA_cells {w:World} {ag:Bool} {azz:List AV} {cs:List Value} (h:Tells w azz cs) (hl:ag=true∨azz.length=1):(elemA ag azz).cells=azz:=by
  cases ag with
  | true=>rfl
  | false =>
    obtain ⟨a,rfl⟩:=List.length_eq_one_iff.1 (hl.resolve_left (by simp))
    have hc:=h.cell a (by simp)
    show a.cells=[a]
    cases a <;> simp [AV.isCell] at hc <;> rfl
theorem elemA_low {w:World} {ag:Bool} {azz:List AV} {cs:List Value} (h:Tells w azz cs) (hl:ag=true∨azz.length=1):AV.under 0 (elemA ag azz)=true:=by
  cases ag with
  | true=>exact h.low
  | false =>
    obtain ⟨a,rfl⟩:=List.length_eq_one_iff.1 (hl.resolve_left (by simp))
    have:=h.low
    simpa [elemA,AV.under.go] using this
theorem trod_struct_shp {d m tot : Nat} {cs : List Value} (ih : ∀ t, plainT P d t = true → ∀ N cs x, DataW.trod enc P w 0 sp held N t cs = some x → ∃ azz, shp P d t azz ∧ Tells w azz cs) (htot : cs.length = tot) :
    ∀(l:List Field) (o:Nat),contig P l o tot=true→(l.all fun f=>plainT P d f.type)=true→(∀f∈l,∃x,DataW.trod enc P w 0 sp held m f.type ((cs.drop f.offset).take (P.cellsOf f.type))=some x) →
    ∃azz,l.foldr (fun f (Q:List AV→Prop) azz=>∃a b,azz=a ++ b∧shp P d f.type a∧Q b) (fun azz=>azz=[]) azz∧Tells w azz (cs.drop o)
  | [],o,hc,_,_=>by
    have:o=tot:=by simpa [contig] using hc
    subst this
    rw [List.drop_of_length_le (by omega)]
    exact ⟨[],rfl,.nil⟩
  | f :: l,o,hc,hp,hall=>by
    simp only [contig,Bool.and_eq_true,beq_iff_eq] at hc
    simp only [List.all_cons,Bool.and_eq_true] at hp
    obtain ⟨x,hx⟩:=hall f List.mem_cons_self
    obtain ⟨a,ha,hta⟩:=ih _ hp.1 _ _ _ hx
    obtain ⟨b,hb,htb⟩:=trod_struct_shp ih htot l _ hc.2 hp.2 fun g hg=>hall g (List.mem_cons_of_mem _ hg)
    refine ⟨a ++ b,⟨a,b,rfl,ha,hb⟩,?_⟩
    rw [hc.1] at hta
    have:cs.drop o=(cs.drop o).take (P.cellsOf f.type) ++ cs.drop (o + P.cellsOf f.type):=by
      rw [←List.drop_drop,List.take_append_drop]
    rw [this]
    exact hta.app htb
theorem flat_parts {c:Nat}:∀(m:Nat) (cs:List Value),cs.length=m * c→((List.range m).map fun i=>(cs.drop (i * c)).take c).flatten=cs
  | 0,cs,h=>by simp at h; subst h; rfl
  | m + 1,cs,h=>by
    rw [List.range_succ_eq_map,List.map_cons,List.map_map,List.flatten_cons,Nat.zero_mul,List.drop_zero]
    have:=flat_parts (c:=c) m (cs.drop c) (by rw [List.length_drop,h,Nat.add_mul]; omega)
    have e:((fun i=>(cs.drop (i * c)).take c) ∘ Nat.succ)=fun i=>((cs.drop c).drop (i * c)).take c:=by
      funext i
      simp only [Function.comp,List.drop_drop,Nat.succ_eq_add_one,Nat.add_mul,Nat.one_mul]
      rw [Nat.add_comm c]
    rw [e,this,List.take_append_drop]
theorem trod_shp:∀(d:Nat) (t:TypeId),plainT P d t=true→∀(N:Nat) (cs:List Value) (x:DataW H×List MemPlace),DataW.trod enc P w 0 sp held N t cs=some x→∃azz,shp P d t azz∧Tells w azz cs
  | 0,t,h,_,_,_,_=>by simp [plainT] at h
  | d + 1,t,h,N,cs,x,hx=>by
    have ih:=trod_shp d
    unfold plainT at h
    unfold shp
    cases hu:P.underlying t with
    | none=>rw [hu] at h; cases h
    | some D =>
      rw [hu] at h
      cases D with
      | bool =>
        obtain ⟨b,rfl,_⟩:=DataW.trod_bool hu hx
        exact ⟨_,⟨b,rfl⟩,.sc (.bool b)⟩
      | int k =>
        obtain ⟨n,rfl,_,hw⟩:=DataW.trod_int hu hx
        exact ⟨_,⟨n,rfl,hw⟩,.sc (.int k n)⟩
      | string =>
        obtain ⟨s,rfl,_,hl⟩:=DataW.trod_string hu hx
        refine ⟨_,⟨s.data.toList,rfl,by simpa using hl⟩,?_⟩
        have:=Tells.sc (w:=w) (.str s.data.toList)
        simpa [Sc.toV] using this
      | slice e =>
        simp only [Bool.and_eq_true,decide_eq_true_eq,Bool.or_eq_true,beq_iff_eq] at h
        obtain ⟨⟨hpos,hag⟩,hpe⟩:=h
        rcases DataW.trod_slice hu hx with ⟨rfl,_⟩ | ⟨a,len,cap,elems,rest,n,_,rfl,_,_,hle,hcap,hlen,hel,_,_⟩
        · exact ⟨_,⟨[],rfl,Nat.zero_le _,fun _ h=>by cases h⟩,⟨.lnil hpos .nil,fun c hc=>by rw [List.mem_singleton.1 hc]; rfl,rfl⟩⟩
        · have each:∀i,i < len→∃z:List Value×List AV,w.cells? 0 (a.add (i * P.cellsOf e)) (P.cellsOf e)=some z.1∧shp P d e z.2∧Tells w z.2 z.1:=fun i hi=>by
            have h1:=hel i hi
            rw [List.getElem?_eq_getElem (by omega)] at h1
            obtain ⟨q,hq,hq2⟩:=Option.bind_eq_some_iff.1 h1
            obtain ⟨azz,h2,h3⟩:=ih e hpe _ _ _ hq2
            exact ⟨(q,azz),hq,h2,h3⟩
          obtain ⟨l,hl,hall⟩:=choose_list each
          have hin:∀z∈l,(∃i,w.cells? 0 (a.add (i * P.cellsOf e)) (P.cellsOf e)=some z.1)∧shp P d e z.2∧Tells w z.2 z.1:=fun z hz=>by
            obtain ⟨i,hi⟩:=List.getElem?_of_mem hz
            exact ⟨⟨i,(hall i z hi).1⟩,(hall i z hi).2⟩
          have hone:∀z∈l,z.2.length=P.cellsOf e:=fun z hz=>by
            obtain ⟨⟨i,h1⟩,_,h2⟩:=hin z hz
            rw [←h2.vl.length]; exact (World.cells?_some h1).2.1
          have hag':∀z∈l,isAgg P e=true∨z.2.length=1:=fun z hz=>hag.imp id fun h=>by rw [hone z hz,h]
          let es:List AV:=l.map fun z=>elemA (isAgg P e) z.2
          have hcells:es.flatMap AV.cells=(l.map (·.2)).flatten:=by
            have:∀(l':List (List Value×List AV)),(∀z∈l',z∈l)→(l'.map fun z=>elemA (isAgg P e) z.2).flatMap AV.cells=(l'.map (·.2)).flatten:=by
              intro l'
              induction l' with
              | nil=>intro _; rfl
              | cons z l' ihl =>
                intro hs
                rw [List.map_cons,List.flatMap_cons,List.map_cons,List.flatten_cons,ihl fun y hy=>hs y (List.mem_cons_of_mem _ hy)]
                have hz:=hs z List.mem_cons_self
                rw [elemA_cells (hin z hz).2.2 (hag' z hz)]
            exact this l fun _ h=>h
          have hspot:es=[]∨a.spot=none:=by
            by_cases h0:len=0
            · left; apply List.length_eq_zero_iff.1; simp [es,hl,h0]
            · right
              obtain ⟨z,hz,_⟩:=each 0 (by omega)
              have h1:=(World.cells?_some hz).2.2 0 hpos
              have h2:(a.add (0 * P.cellsOf e)).add 0=a:=by simp [Addr.add]
              rw [h2,List.getElem?_eq_getElem (by rw [(World.cells?_some hz).2.1]; exact hpos)] at h1
              unfold World.cell? at h1
              split at h1
              · split at h1
                · cases h1
                · rename_i h3; simpa using h3
              · cases h1
          have htell:Tells w (l.map (·.2)).flatten (l.map (·.1)).flatten:=Tells.flat (by simp) fun i p q hp hq=>by
            rw [List.getElem?_map] at hp hq
            cases hz:l[i]? with
            | none=>rw [hz] at hp; cases hp
            | some z =>
              rw [hz] at hp hq
              injection hp with hp; injection hq with hq; subst hp; subst hq
              exact (hall i z hz).2.2
          refine ⟨_,⟨es,rfl,by simp [es,hl]; omega,fun y hy => ?_⟩,⟨?_,fun c hc=>by rw [List.mem_singleton.1 hc]; rfl,rfl⟩⟩
          · obtain ⟨z,hz,rfl⟩:=List.mem_map.1 hy
            rw [elemA_cells (hin z hz).2.2 (hag' z hz)]
            refine ⟨(hin z hz).2.1,fun h=>by rw [h]; rfl,fun h => ?_⟩
            obtain ⟨a,ha⟩:=List.length_eq_one_iff.1 ((hag' z hz).resolve_left (by rw [h]; simp))
            rw [ha,h]; rfl
          · refine .list (xs:=(l.map (·.1)).flatten) (.inl rfl) (by simp [es,hl]) hle hpos hspot (fun y hy => ?_) ?_ (by rw [hcells]; exact htell.vl) (fun i v hv=>⟨?_,fun h=>(show False from h)⟩) .nil
            · obtain ⟨z,hz,rfl⟩:=List.mem_map.1 hy
              rw [elemA_cells (hin z hz).2.2 (hag' z hz)]
              exact ⟨hone z hz,(hin z hz).2.2.cell⟩
            · refine under_mem.2 fun y hy => ?_
              obtain ⟨z,hz,rfl⟩:=List.mem_map.1 hy
              exact elemA_low (hin z hz).2.2 (hag' z hz)
            · rcases hspot with h0 | h0
              · have:l=[]:=by simpa [es] using h0
                rw [this] at hv; simp at hv
              · obtain ⟨ab,ao,azz⟩:=a
                dsimp only at h0; subst h0
                refine lies_flat (c:=P.cellsOf e) _ ao (fun j q hq => ?_) i v hv
                rw [List.getElem?_map] at hq
                cases hz:l[j]? with
                | none=>rw [hz] at hq; cases hq
                | some z =>
                  rw [hz] at hq
                  injection hq with hq; subst hq
                  have:=(hall j z hz).1
                  rwa [Addr.add_lit] at this
      | struct fs =>
        simp only [Bool.and_eq_true] at h
        obtain ⟨xs,n,_,_,hl,hxl,hf⟩:=DataW.trod_struct hu hx
        obtain ⟨azz,h1,h2⟩:=trod_struct_shp (m:=n) ih hl fs.toList 0 h.1 h.2 fun f hm=>by
          obtain ⟨i,hi⟩:=List.getElem?_of_mem hm
          have hi':fs[i]? = some f:=by simpa using hi
          have:=hf i f hi'
          have hlt:=(Array.getElem?_eq_some_iff.1 hi').1
          rw [List.getElem?_eq_getElem (by omega)] at this
          exact ⟨_,this⟩
        exact ⟨azz,h1,by simpa using h2⟩
      | array m e =>
        simp only [Bool.and_eq_true,beq_iff_eq] at h
        obtain ⟨xs,n,_,_,hl,hxl,hf⟩:=DataW.trod_array hu hx
        obtain ⟨ps,hpl,hall⟩:=choose_list (n:=m) (p:=fun i azz=>shp P d e azz∧Tells w azz ((cs.drop (i * P.cellsOf e)).take (P.cellsOf e))) fun i hi=>by
          have:=hf i hi
          rw [List.getElem?_eq_getElem (by omega)] at this
          exact ih e h.2 _ _ _ this
        refine ⟨ps.flatten,⟨ps,hpl,rfl,fun p hp => ?_⟩,?_⟩
        · obtain ⟨i,hi⟩:=List.getElem?_of_mem hp
          exact (hall i p hi).1
        · rw [←flat_parts (c:=P.cellsOf e) m cs (by rw [hl,h.1])]
          refine Tells.flat (by simp [hpl]) fun i p q hp hq => ?_
          have hlt:i < m:=by have:=(List.getElem?_eq_some_iff.1 hp).1; omega
          have:q=(cs.drop (i * P.cellsOf e)).take (P.cellsOf e):=by
            rw [List.getElem?_map,List.getElem?_range hlt] at hq
            injection hq with hq; exact hq.symm
          subst this
          exact (hall i p hp).2
      | _=>cases h
def argA (ag:Bool) (azz:List AV):AV:=elemA ag azz
theorem trod_arg {d : Nat} {t : TypeId} {v : Value} {D : DataW H} {ps : List MemPlace} (hp : plainT P d t = true) (hok : Value.okWide P w .any 0 t v) (h : DataW.Trod enc P w 0 sp held t v D ps) :
    ∃azz,shp P d t azz∧V G.none w (argA (isAgg P t) azz) v:=by
  obtain ⟨n,hn⟩:=h
  obtain ⟨azz,h1,h2⟩:=trod_shp d t hp n _ _ hn
  refine ⟨azz,h1,?_⟩
  cases hu:P.underlying t with
  | none =>
    cases d with
    | zero=>simp [plainT] at hp
    | succ d=>rw [plainT,hu] at hp; cases hp
  | some D =>
    have scalar:isAgg P t=false→(∀xs,v≠.agg xs)→V G.none w (argA (isAgg P t) azz) v:=fun hf hv=>by
      rw [hf]
      have e:v.cells.toList=[v]:=by
        cases v <;> first | rfl | exact (hv _ rfl).elim
      rw [e] at h2
      obtain ⟨a,as',rfl,h3,h4⟩:∃a as',azz=a :: as'∧V G.none w a v∧VL G.none w as' []:=by
        cases azz with
        | nil=>have:=h2.vl.length; simp at this
        | cons a as' =>
          obtain ⟨v',vs',hh,h3,h4⟩:=h2.vl.cons_left
          injection hh with hh1 hh2; subst hh1; subst hh2
          exact ⟨a,as',rfl,h3,h4⟩
      exact h3
    cases D with
    | struct fs =>
      simp only [Value.okWide,hu] at hok
      obtain ⟨cs,rfl,_,_⟩:=hok
      rw [show isAgg P t=true by simp [isAgg,hu]]
      exact .agg h2.cell (by simpa [Value.cells] using h2.vl) .nil
    | array m e =>
      simp only [Value.okWide,hu] at hok
      obtain ⟨cs,rfl,_,_⟩:=hok
      rw [show isAgg P t=true by simp [isAgg,hu]]
      exact .agg h2.cell (by simpa [Value.cells] using h2.vl) .nil
    | _ =>
      refine scalar (by simp [isAgg,hu]) fun xs hv => ?_
      subst hv
      simp [Value.okWide,Cell.okWide,Cell.ok,hu] at hok
end
end Go.AM
namespace Go.AM
open Go
section
variable {P:Program}
def parts (P:Program) (d:Nat):List TypeId→List AV→Prop
  | [],azz=>azz=[]
  | u :: ts,azz=>∃a b,azz=a ++ b∧shp P d u a∧parts P d ts b
theorem parts_of {d:Nat}:∀{fs:List Field} {azz:List AV},fs.foldr (fun f (Q:List AV→Prop) azz=>∃a b,azz=a ++ b∧shp P d f.type a∧Q b) (fun azz=>azz=[]) azz→parts P d (fs.map (·.type)) azz
  | [],_,h=>h
  | f :: fs,azz,h=>by
    obtain ⟨a,b,h1,h2,h3⟩:=h
    exact ⟨a,b,h1,h2,parts_of h3⟩
theorem shp_struct {d:Nat} {t:TypeId} {fs:Array Field} {ts:List TypeId} {azz:List AV} (ht:P.underlying t=some (.struct fs)) (hts:fs.toList.map (·.type)=ts) (h:shp P (d + 1) t azz):parts P d ts azz:=by
  unfold shp at h
  rw [ht] at h
  subst hts
  exact parts_of h
theorem shp_int {d:Nat} {t:TypeId} {k:IntKind} {azz:List AV} (ht:P.underlying t=some (.int k)) (h:shp P (d + 1) t azz):∃i,azz=[.s (.int k i)]∧(Lit.int k i).wf=true:=by
  unfold shp at h; rw [ht] at h; exact h
theorem shp_bool {d:Nat} {t:TypeId} {azz:List AV} (ht:P.underlying t=some .bool) (h:shp P (d + 1) t azz):∃b,azz=[.s (.bool b)]:=by
  unfold shp at h; rw [ht] at h; exact h
theorem shp_str {d:Nat} {t:TypeId} {azz:List AV} (ht:P.underlying t=some .string) (h:shp P (d + 1) t azz):∃l,azz=[.s (.str l)]∧l.length≤maxLen:=by
  unfold shp at h; rw [ht] at h; exact h
theorem shp_u8 {d:Nat} {t:TypeId} {azz:List AV} (ht:P.underlying t=some (.int .u8)) (h:shp P (d + 1) t azz):∃b:UInt8,azz=[u8 b]:=by
  obtain ⟨i,rfl,hw⟩:=shp_int ht h
  have:=bounds_u8 hw
  refine ⟨UInt8.ofNat i.toNat,?_⟩
  have:((UInt8.ofNat i.toNat).toNat:Int)=i:=by rw [UInt8.toNat_ofNat']; omega
  show _=[AV.s (.int .u8 _)]
  rw [this]
theorem shp_key {d:Nat} {t u:TypeId} {azz:List AV} (ht:P.underlying t=some (.array 16 u)) (hu:P.underlying u=some (.int .u8)) (h:shp P (d + 2) t azz):∃k:Key,azz=bs k.b:=by
  unfold shp at h; rw [ht] at h
  obtain ⟨ps,hl,rfl,hall⟩:=h
  obtain ⟨l,rfl⟩:=of_each (f:=fun b=>[u8 b]) ps fun p hp=>shp_u8 hu (hall p hp)
  refine ⟨⟨l,by simpa using hl⟩,?_⟩
  show _=l.map u8
  clear hl hall
  induction l with
  | nil=>rfl
  | cons b l ih=>simp only [List.map_cons,List.flatten_cons,ih]; rfl
theorem shp_wr {d : Nat} {t tk u ts tb : TypeId} {fs : Array Field} {azz : List AV} (ht : P.underlying t = some (.struct fs)) (hf : fs.toList.map (·.type) = [tk, ts, tb]) (hk : P.underlying tk = some (.array 16 u)) (hu : P.underlying u = some (.int .u8)) (hs : P.underlying ts = some .string) (hb : P.underlying tb = some .bool)
    (h:shp P (d + 3) t azz):∃w:Wr,azz=wc w:=by
  obtain ⟨a,r,rfl,h1,a2,r2,rfl,h2,a3,r3,rfl,h3,rfl⟩:=shp_struct ht hf h
  obtain ⟨k,rfl⟩:=shp_key hk hu h1
  obtain ⟨l,rfl,_⟩:=shp_str hs h2
  obtain ⟨b,rfl⟩:=shp_bool hb h3
  exact ⟨⟨k,l,b⟩,rfl⟩
end
end Go.AM
namespace Go.AM
open Go
section
variable {P:Program}
theorem shp_stamp {d:Nat} {t ti tn:TypeId} {fs:Array Field} {azz:List AV} (ht:P.underlying t=some (.struct fs)) (hf:fs.toList.map (·.type)=[ti,tn]) (hi:P.underlying ti=some (.int .i64)) (hn:P.underlying tn=some (.int .u8)) (h:shp P (d + 2) t azz):∃s:Stp,azz=stc s:=by
  obtain ⟨a,r,rfl,h1,a2,r2,rfl,h2,rfl⟩:=shp_struct ht hf h
  obtain ⟨i,rfl,_⟩:=shp_int hi h1
  obtain ⟨b,rfl⟩:=shp_u8 hn h2
  exact ⟨⟨i,b⟩,rfl⟩
end
end Go.AM
namespace Go.AM
open Go
variable {P:Program}
theorem wT {α:Type} {p:α→Prop} (h:∃x,p x):∃x,p x∧True:=h.imp fun _ e=>⟨e,trivial⟩
theorem of_eachQ {α:Type} {f:α→AV} {Q:α→Prop}:∀(es:List AV),(∀x∈es,∃a,x=f a∧Q a)→∃l:List α,es=l.map f∧∀a∈l,Q a
  | [],_=>⟨[],rfl,fun a h=>by cases h⟩
  | x :: es,h=>by
    obtain ⟨a,rfl,hq⟩:=h x (List.mem_cons_self ..)
    obtain ⟨l,rfl,hl⟩:=of_eachQ es fun y hy=>h y (List.mem_cons_of_mem _ hy)
    exact ⟨a :: l,rfl,fun b hb=>by rcases List.mem_cons.1 hb with rfl | hb; exact hq; exact hl b hb⟩
theorem shp_sliceQ {d : Nat} {t e : TypeId} {c : Nat} {azz : List AV} {α : Type} (f : α → AV) (Q : α → Prop) (ht : P.underlying t = some (.slice e)) (hc : P.cellsOf e = c) (he : ∀ x : AV, shp P d e x.cells → (isAgg P e = true → x = .agg x.cells) → (isAgg P e = false → x.cells = [x]) → ∃ a, x = f a ∧ Q a) (h : shp P (d + 1) t azz) :
    ∃l:List α,azz=[.list .sh c (l.map f)]∧l.length≤9223372036854775807∧∀a∈l,Q a:=by
  subst hc
  unfold shp at h; rw [ht] at h
  obtain ⟨es,rfl,hl,hall⟩:=h
  obtain ⟨l,rfl,hq⟩:=of_eachQ (f:=f) es fun x hx=>he x (hall x hx).1 (hall x hx).2.1 (hall x hx).2.2
  refine ⟨l,rfl,?_,hq⟩
  rw [List.length_map] at hl
  unfold maxLen at hl; omega
theorem shp_i64 {d:Nat} {t:TypeId} {azz:List AV} (ht:P.underlying t=some (.int .i64)) (h:shp P (d + 1) t azz):∃i:Int,azz=[.s (.int .i64 i)]∧-9223372036854775808≤i∧i≤9223372036854775807:=by
  obtain ⟨i,rfl,hw⟩:=shp_int ht h
  refine ⟨i,rfl,?_⟩
  unfold Lit.wf at hw
  rw [Bool.and_eq_true] at hw
  have h1:=of_decide_eq_true hw.1
  have h2:=of_decide_eq_true hw.2
  simp [IntKind.min,IntKind.max,IntKind.signed,IntKind.bits] at h1 h2
  omega
end Go.AM
