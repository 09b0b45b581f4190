import Derived.Shelf.Spec.SlicesInsert
import Derived.Shelf.Spec.SlicesInsertGrow
import Derived.Shelf.SlGeneric
import Derived.Test.YtlnclcpffepfaaaM6
import Derived.Shelf.SlSortCmp.NoneTotal
import Derived.Shelf.SortM.Plain
import Derived.Shelf.SortM.SortNone
import Derived.Laws.IdiomRangeMap
set_option linter.unusedSimpArgs false
set_option linter.unusedVariables false
namespace Go.Proofs
open Go.Shelf Go.RowKit Go.Lib
variable {P:Program} {ρ : Ren}
structure InsL (P:Program) (ρ : Ren) (k:Nat) (zr:Value) (bt:Nat):Prop where
  mixed:P.follows .mixedOrders=true
  f22:Bears P (ρ.f 22) (Body2.n22 ρ)
  f29:∃F:Func,P.funcs[ρ.f 29]? = some F∧(F.name == "runtime.NumGoroutine")=false∧F.body.isNone=true∧Extern.findNext F=none∧Extern.find F=some (Extern.SlicesOverlaps.overlaps #[ρ.t 24,ρ.t 24] #[ρ.t 4])
  t0:P.underlying (ρ.t 0)=some (TypeDesc.tuple #[])
  a0:∀w,(isAgg (ρ.t 0)).run P w = .ok false w
  z0:∀w,(Go.sizeOf (ρ.t 0)).run P w = .ok 1 w
  v0:∀w,(zeroValue (ρ.t 0)).run P w = .ok (Value.tuple #[]) w
  t3:P.underlying (ρ.t 3)=some (TypeDesc.int IntKind.i64)
  a3:∀w,(isAgg (ρ.t 3)).run P w = .ok false w
  z3:∀w,(Go.sizeOf (ρ.t 3)).run P w = .ok 1 w
  v3:∀w,(zeroValue (ρ.t 3)).run P w = .ok (Value.int IntKind.i64 0) w
  t4:P.underlying (ρ.t 4)=some (TypeDesc.bool)
  a4:∀w,(isAgg (ρ.t 4)).run P w = .ok false w
  z4:∀w,(Go.sizeOf (ρ.t 4)).run P w = .ok 1 w
  v4:∀w,(zeroValue (ρ.t 4)).run P w = .ok (Value.bool false) w
  z9:∀w,(Go.sizeOf (ρ.t 9)).run P w = .ok k w
  t24:P.underlying (ρ.t 24)=some (TypeDesc.slice (ρ.t 9))
  a24:∀w,(isAgg (ρ.t 24)).run P w = .ok false w
  z24:∀w,(Go.sizeOf (ρ.t 24)).run P w = .ok 1 w
  v24:∀w,(zeroValue (ρ.t 24)).run P w = .ok (Value.slice none 0 0) w
  i9:(P.info? (ρ.t 9)).map (fun i=>(i.zero,i.size,i.bytes))=some (some zr,k,bt)
  pos:0 < k
  zc:zr.cells.size=k
  one:∀v∈zr.cells,v.oneCell'=true
  byt:0 < bt
theorem run_copy_cellsK (w : World) (dT sT ty elem : TypeId) (b o dLen dCap : Nat) (a : Addr) (sLen sCap k : Nat) (cs : List Value)
    (hu:P.underlying dT=some (.slice elem)) (hs:(P.info? elem).map (·.size)=some k) (hn:cs.length=Nat.min sLen dLen * k)
    (hsrc:∀j v,cs[j]? = some v→w.cell? (a.add j)=some v) (hc:∀j,j < cs.length→(w.cell? ⟨b,o + j,none⟩).isSome=true) (hf:∀j,j < cs.length→w.frozen? ⟨b,o + j,none⟩=false) (h1:∀v∈cs,v.oneCell'=true) :
    (Builtin.copy_ #[dT,sT] ty #[.slice (some ⟨b,o,none⟩) dLen dCap,.slice (some a) sLen sCap]).run P w = .ok (goInt (Nat.min sLen dLen)) (w.setCells b o cs):=by
  have hl:=run_loadCells_list (P:=P) w a cs hsrc
  have hst:=run_storeCells_cells (P:=P) b o cs 0 w (by simpa using hc) (by simpa using hf) h1
  cases hq:P.info? elem with
  | none=>simp [hq] at hs
  | some i =>
    have hi:i.size=k:=by simpa [hq] using hs
    simp [Builtin.copy_,run_underlying hu,Builtin.lenOf,Builtin.firstCells,sizeOf,typeInfo,hq,hi,←hn,hl,hst]
set_option maxHeartbeats 4000000 in
set_option maxRecDepth 100000 in
theorem insK_shift {k : Nat} {zr : Value} {bt : Nat} (L : InsL P ρ k zr bt) (b off n c i vb voff m vc : Nat) (cs vs : List Value) (w : World) (hi : i < n) (hm : 0 < m) (hroom : n + m ≤ c) (hnm : n + m ≤ 9223372036854775807) (hap : vb ≠ b ∨ off + (n + m) * k ≤ voff)
    (hcl:cs.length=n * k) (hvl:vs.length=m * k)
    (hcs:∀j v,cs[j]? = some v→w.cell? ⟨b,off + j,none⟩=some v) (hsp:∀j,j < (n + m) * k→(w.cell? ⟨b,off + j,none⟩).isSome=true) (hfz:∀j,j < (n + m) * k→w.frozen? ⟨b,off + j,none⟩=false)
    (hvs:∀j v,vs[j]? = some v→w.cell? ⟨vb,voff + j,none⟩=some v) (h1c:∀v∈cs,v.oneCell'=true) (h1v:∀v∈vs,v.oneCell'=true)
    (hov:∀cb,(callFunc (ρ.f 29) #[.slice (some ⟨vb,voff,none⟩) m vc,.slice (some ⟨b,off + (i + m) * k,none⟩) (n + m - (i + m)) cb]).run P w = .ok (.value (.bool false)) w) :
    Calls P (ρ.f 22) #[.slice (some ⟨b,off,none⟩) n c,.int .i64 i,.slice (some ⟨vb,voff,none⟩) m vc] w fun e w' =>
      e = .returned (.slice (some ⟨b,off,none⟩) (n + m) c)∧w'=(w.drew.setCells b (off + (i + m) * k) (cs.drop (i * k))).setCells b (off + i * k) vs:=by
  have t0:=L.t0; have a0:=L.a0; have z0:=L.z0; have v0:=L.v0; have t3:=L.t3; have a3:=L.a3; have z3:=L.z3; have v3:=L.v3; have t4:=L.t4; have a4:=L.a4; have z4:=L.z4; have v4:=L.v4; have z9:=L.z9; have t24:=L.t24; have a24:=L.a24; have z24:=L.z24; have v24:=L.v24
  have u0:=run_underlying L.t0; have u3:=run_underlying L.t3; have u4:=run_underlying L.t4; have u24:=run_underlying L.t24
  have k0:=L.pos
  have hz1:¬((m:Int)=0):=by omega
  have hz2:¬((i:Int)=(n:Int)):=by omega
  have hsz:(P.info? (ρ.t 9)).map (·.size)=some k:=by
    have:=L.i9
    cases hq:P.info? (ρ.t 9) with
    | none=>rw [hq] at this; cases this
    | some i=>rw [hq] at this; simp at this ⊢; exact this.2.1
  have hle:∀{x y:Nat},x≤y→x * k≤y * k:=fun h=>Nat.mul_le_mul_right _ h
  have hlt:∀{x y j:Nat},j < x * k→x + y≤n + m→y * k + j < (n + m) * k:=fun {x y j} h1 h2=>by
    have:=hle h2; rw [Nat.add_mul] at this; omega
  have hdl:(cs.drop (i * k)).length=(n - i) * k:=by rw [List.length_drop,hcl,Nat.sub_mul]
  have mixed:=L.mixed
  have hw1:IntKind.i64.wrap ((i:Int) + (m:Int))=(i:Int) + (m:Int):=by rw [IntKind.wrap_i64]; omega
  have hb1:(0:Int)≤(i:Int) + (m:Int):=by omega
  have hin:i≤n:=by omega
  have htn:((i:Int) + (m:Int)).toNat=i + m:=by omega
  have hb2:¬(c=i + m):=by omega
  have hb3:(i:Int)≤(n:Int) + (m:Int):=by omega
  have hb4:¬(c=i):=by omega
  have hcp1:∀ty dc sc,(Builtin.copy_ #[(ρ.t 24),(ρ.t 24)] ty #[.slice (some ⟨b,off + (i + m) * k,none⟩) (n + m - (i + m)) dc,.slice (some ⟨b,off + i * k,none⟩) (n + m - i) sc]).run P w.drew = .ok (goInt (n - i:Nat)) (w.drew.setCells b (off + (i + m) * k) (cs.drop (i * k))):=fun ty dc sc=>by
    have hmin:Nat.min (n + m - i) (n + m - (i + m))=n - i:=by simp only [Nat.min_def]; split <;> omega
    have:=run_copy_cellsK w.drew (ρ.t 24) (ρ.t 24) ty (ρ.t 9) b (off + (i + m) * k) (n + m - (i + m)) dc ⟨b,off + i * k,none⟩ (n + m - i) sc k (cs.drop (i * k)) L.t24 hsz (by rw [hdl,hmin])
      (fun j v hj=>by rw [Addr.add_lit,Nat.add_assoc]; exact hcs (i * k + j) v (by rwa [List.getElem?_drop] at hj))
      (fun j hj=>by rw [Nat.add_assoc]; exact hsp _ (hlt (x:=n - i) (by rwa [hdl] at hj) (by omega))) (fun j hj=>by rw [Nat.add_assoc]; exact hfz _ (hlt (x:=n - i) (by rwa [hdl] at hj) (by omega))) (fun v hv=>h1c v (List.mem_of_mem_drop hv))
    rw [hmin] at this
    exact this
  obtain ⟨W1,hW1⟩:∃W1,W1=w.drew.setCells b (off + (i + m) * k) (cs.drop (i * k)):=⟨_,rfl⟩
  have hsp1:∀j,j < (n + m) * k→(W1.cell? ⟨b,off + j,none⟩).isSome=true:=fun t ht=>by
    rw [hW1]
    exact isSome_setCells b _ _ _ (fun j hj=>by rw [Nat.add_assoc]; exact hsp _ (hlt (x:=n - i) (by rwa [hdl] at hj) (by omega))) _ (hsp t ht)
  have hcp2:∀(W:World),(∀x,W.cell? x=W1.cell? x)→(∀x,W.frozen? x=W1.frozen? x)→∀ty dc,(Builtin.copy_ #[(ρ.t 24),(ρ.t 24)] ty #[.slice (some ⟨b,off + i * k,none⟩) (n + m - i) dc,.slice (some ⟨vb,voff,none⟩) m vc]).run P W = .ok (goInt m) (W.setCells b (off + i * k) vs):=fun W hWc hWf ty dc=>by
    have hmin:Nat.min m (n + m - i)=m:=by simp only [Nat.min_def]; split <;> omega
    have:=run_copy_cellsK W (ρ.t 24) (ρ.t 24) ty (ρ.t 9) b (off + i * k) (n + m - i) dc ⟨vb,voff,none⟩ m vc k vs L.t24 hsz (by rw [hvl,hmin])
      (fun j v hj=>by
        rw [Addr.add_lit,hWc,hW1,World.cell?_setCells_out b _ _ _ _ (fun h _=>by
          rcases hap with hap | hap
          · exact absurd h hap
          · right
            show _≤voff + j
            rw [hdl]
            have h2:(i + m) * k + (n - i) * k=(n + m) * k:=by rw [←Nat.add_mul]; congr 1; omega
            omega)]
        exact hvs j v hj)
      (fun j hj=>by rw [hWc,Nat.add_assoc]; exact hsp1 _ (hlt (x:=m) (by rwa [hvl] at hj) (by omega))) (fun j hj=>by rw [hWf,hW1,World.frozen?_setCells,Nat.add_assoc]; exact hfz _ (hlt (x:=m) (by rwa [hvl] at hj) (by omega))) h1v
    rw [hmin] at this
    exact this
  rw [←hW1] at hcp1
  obtain ⟨_,_,FG⟩:=L.f22
  go_enter FG,Body2.n22_ntmps ρ
  go_wp2_with (simp only [hov])
  go_region_law_o (refine step_copy_runI rfl _ _ (ρ.t 24) (ρ.t 24) rfl _ _ (by simp [Act.eval,Act.put]) (by simp [Act.eval,Act.put]) (hcp1 _ _ _) ?_)
  go_wp2_with (at_builtin; refine wpList_copy_runI _ rfl _ _ (ρ.t 24) (ρ.t 24) rfl _ _ rfl rfl (hcp2 _ (fun _=>rfl) (fun _=>rfl) _ _) ?_)
  go_ret
  first | exact ⟨rfl,rfl⟩ | exact ⟨rfl,by rw [hW1]⟩
theorem InsL.info {k:Nat} {zr:Value} {bt:Nat} (L:InsL P ρ k zr bt):∃i,P.info? (ρ.t 9)=some i∧i.zero=some zr∧i.size=k∧i.bytes=bt:=by
  have:=L.i9
  cases hq:P.info? (ρ.t 9) with
  | none=>rw [hq] at this; cases this
  | some i=>rw [hq] at this; simp at this; exact ⟨i,rfl,this⟩
set_option maxHeartbeats 4000000 in
set_option maxRecDepth 100000 in
theorem insK_end_room {k : Nat} {zr : Value} {bt : Nat} (L : InsL P ρ k zr bt) (b off n c vb voff m vc : Nat) (vs : List Value) (w : World) (hm : 0 < m) (hroom : n + m ≤ c)
    (hvl:vs.length=m * k) (hsp:∀j,j < m * k→(w.cell? ⟨b,off + n * k + j,none⟩).isSome=true) (hfz:∀j,j < m * k→w.frozen? ⟨b,off + n * k + j,none⟩=false)
    (hvs:∀j v,vs[j]? = some v→w.cell? ⟨vb,voff + j,none⟩=some v) (h1v:∀v∈vs,v.oneCell'=true) :
    Calls P (ρ.f 22) #[.slice (some ⟨b,off,none⟩) n c,.int .i64 n,.slice (some ⟨vb,voff,none⟩) m vc] w fun e w' =>
      e = .returned (.slice (some ⟨b,off,none⟩) (n + m) c)∧w'=w.setCells b (off + n * k) vs:=by
  have t0:=L.t0; have a0:=L.a0; have z0:=L.z0; have v0:=L.v0; have t3:=L.t3; have a3:=L.a3; have z3:=L.z3; have v3:=L.v3; have t4:=L.t4; have a4:=L.a4; have z4:=L.z4; have v4:=L.v4; have z9:=L.z9; have t24:=L.t24; have a24:=L.a24; have z24:=L.z24; have v24:=L.v24
  have u0:=run_underlying L.t0; have u3:=run_underlying L.t3; have u4:=run_underlying L.t4; have u24:=run_underlying L.t24
  have mixed:=L.mixed
  have hz1:¬((m:Int)=0):=by omega
  obtain ⟨i0,hi0,hz0,hzs,hzb⟩:=L.info
  have hsrc:Src P i0.size (ρ.t 24) (.slice (some ⟨vb,voff,none⟩) m vc) m vs w:=by
    rw [hzs]
    exact Src.ofSlice w L.t24 ⟨vb,voff,none⟩ m vc vs hvl (fun j u hj=>by rw [Addr.add_lit]; exact hvs j u hj) h1v
  have hrun:=fun ty=>run_append_room_src (P:=P) w (ρ.t 24) (ρ.t 24) ty (ρ.t 9) i0 L.t24 hi0 b off n c _ m vs hsrc hroom (by rw [hvl,hzs]; exact hsp) (by rw [hvl,hzs]; exact hfz)
  rw [hzs] at hrun
  obtain ⟨_,_,FG⟩:=L.f22
  go_enter FG,Body2.n22_ntmps ρ
  go_wp2_with (at_builtin; refine Lib.wpList_append_run _ rfl _ _ _ _ rfl _ _ rfl rfl _ _ (hrun _) ?_)
  go_ret
  exact ⟨rfl,rfl⟩
set_option maxHeartbeats 4000000 in
set_option maxRecDepth 100000 in
theorem insK_end_grow {k : Nat} {zr : Value} {bt : Nat} (L : InsL P ρ k zr bt) (base : Option Addr) (n c vb voff m vc : Nat) (cs vs : List Value) (w : World) (hm : 0 < m) (hnc : n ≤ c) (hroom : c < n + m) (hbig : (n + m) * bt ≤ 140737488355328)
    (hcl:cs.length=n * k) (hvl:vs.length=m * k) (hnil:base=none→n=0)
    (hcs:∀a,base=some a→∀j v,cs[j]? = some v→w.cell? (a.add j)=some v)
    (hvs:∀j v,vs[j]? = some v→w.cell? ⟨vb,voff + j,none⟩=some v) (h1v:∀v∈vs,v.oneCell'=true) :
    Calls P (ρ.f 22) #[.slice base n c,.int .i64 n,.slice (some ⟨vb,voff,none⟩) m vc] w fun e w' =>
      e = .returned (.slice (some ⟨w.heap.size,0,none⟩) (n + m) (grownCap w (n + m) c (ρ.t 9))) ∧
      w'=w.drew.alloc (.cells ((cs ++ vs).toArray ++ Builtin.zeroCells zr.cells (grownCap w (n + m) c (ρ.t 9) - (n + m))) (ρ.t 9)):=by
  have t0:=L.t0; have a0:=L.a0; have z0:=L.z0; have v0:=L.v0; have t3:=L.t3; have a3:=L.a3; have z3:=L.z3; have v3:=L.v3; have t4:=L.t4; have a4:=L.a4; have z4:=L.z4; have v4:=L.v4; have z9:=L.z9; have t24:=L.t24; have a24:=L.a24; have z24:=L.z24; have v24:=L.v24
  have u0:=run_underlying L.t0; have u3:=run_underlying L.t3; have u4:=run_underlying L.t4; have u24:=run_underlying L.t24
  have mixed:=L.mixed
  obtain ⟨i0,hi0,hz0,hzs,hzb⟩:=L.info
  have hb0:=L.byt
  have h63:n + m≤140737488355328:=Nat.le_trans (Nat.le_mul_of_pos_right _ hb0) hbig
  have hz1:¬((m:Int)=0):=by omega
  have hsrc:Src P i0.size (ρ.t 24) (.slice (some ⟨vb,voff,none⟩) m vc) m vs w:=by
    rw [hzs]
    exact Src.ofSlice w L.t24 ⟨vb,voff,none⟩ m vc vs hvl (fun j u hj=>by rw [Addr.add_lit]; exact hvs j u hj) h1v
  have hold:(Builtin.firstCells i0.size n (.slice base n c)).run P w.drew = .ok cs.toArray w.drew:=by
    rw [hzs]
    cases base with
    | none =>
      have h0:=hnil rfl
      subst h0
      obtain rfl:cs=[]:=List.length_eq_zero_iff.1 (by rw [hcl]; simp)
      exact run_firstCells_none w.drew k 0 0 c
    | some a=>exact run_firstCells_some w.drew k n a n c cs hcl (fun j v hj=>hcs a rfl j v hj)
  have hrun:∀ty,(Builtin.append_ #[(ρ.t 24),(ρ.t 24)] ty #[.slice base n c,.slice (some ⟨vb,voff,none⟩) m vc]).run P w=_:=fun ty =>
    run_append_grow_src w (ρ.t 24) (ρ.t 24) ty (ρ.t 9) i0 _ L.t24 hi0 hz0 base n c cs hold _ m vs hsrc hroom (by omega) (by rw [hzb]; exact growslice_fits hroom hbig)
  generalize zr.cells=zc at hrun ⊢
  obtain ⟨_,_,FG⟩:=L.f22
  go_enter FG,Body2.n22_ntmps ρ
  cases base with
  | none =>
    have h0:=hnil rfl
    subst h0
    go_wp2_with (at_builtin; refine Lib.wpList_append_run _ rfl _ _ _ _ rfl _ _ rfl rfl _ _ (hrun _) ?_)
    go_ret
    exact ⟨rfl,rfl⟩
  | some a =>
    obtain ⟨ab,ao,asp⟩:=a
    go_wp2_with (at_builtin; refine Lib.wpList_append_run _ rfl _ _ _ _ rfl _ _ rfl rfl _ _ (hrun _) ?_)
    all_goals (go_ret; exact ⟨rfl,rfl⟩)
theorem size_zc (zc:Array Value) (n:Nat):(Builtin.zeroCells zc n).size=n * zc.size:=by simp [Builtin.zeroCells]
set_option maxHeartbeats 4000000 in
set_option maxRecDepth 100000 in
theorem insK_grow {k : Nat} {zr : Value} {bt : Nat} (L : InsL P ρ k zr bt) (b off n c i vb voff m vc : Nat) (cs vs : List Value) (w : World) (hi : i < n) (hm : 0 < m) (hnc : n ≤ c) (hroom : c < n + m) (hbig : (n + m) * bt ≤ 140737488355328)
    (hcl:cs.length=n * k) (hvl:vs.length=m * k)
    (hcs:∀j v,cs[j]? = some v→w.cell? ⟨b,off + j,none⟩=some v)
    (hvs:∀j v,vs[j]? = some v→w.cell? ⟨vb,voff + j,none⟩=some v) (h1c:∀v∈cs,v.oneCell'=true) (h1v:∀v∈vs,v.oneCell'=true) :
    Calls P (ρ.f 22) #[.slice (some ⟨b,off,none⟩) n c,.int .i64 i,.slice (some ⟨vb,voff,none⟩) m vc] w fun e w' =>
      e = .returned (.slice (some ⟨w.heap.size,0,none⟩) (n + m) (grownCap w (n + m) c (ρ.t 9))) ∧
      w'=(((w.alloc (.cells ((cs.take (i * k)).toArray ++ Builtin.zeroCells zr.cells (n + m - i) ++ Builtin.zeroCells zr.cells (grownCap w (n + m) c (ρ.t 9) - (n + m))) (ρ.t 9))).drew.setCells w.heap.size (i * k) vs).drew).setCells w.heap.size ((i + m) * k) (cs.drop (i * k)):=by
  have t0:=L.t0; have a0:=L.a0; have z0:=L.z0; have v0:=L.v0; have t3:=L.t3; have a3:=L.a3; have z3:=L.z3; have v3:=L.v3; have t4:=L.t4; have a4:=L.a4; have z4:=L.z4; have v4:=L.v4; have z9:=L.z9; have t24:=L.t24; have a24:=L.a24; have z24:=L.z24; have v24:=L.v24
  have u0:=run_underlying L.t0; have u3:=run_underlying L.t3; have u4:=run_underlying L.t4; have u24:=run_underlying L.t24
  have mixed:=L.mixed
  obtain ⟨i0,hi0,hz0,hzs,hzb⟩:=L.info
  have k0:=L.pos
  have hb0:=L.byt
  have h63:n + m≤140737488355328:=Nat.le_trans (Nat.le_mul_of_pos_right _ hb0) hbig
  have hz1:¬((m:Int)=0):=by omega
  have hz2:¬((i:Int)=(n:Int)):=by omega
  have hsz:(P.info? (ρ.t 9)).map (·.size)=some k:=by rw [hi0]; simp [hzs]
  have hle:∀{x y:Nat},x≤y→x * k≤y * k:=fun h=>Nat.mul_le_mul_right _ h
  have hlt:∀{x y j:Nat},j < x * k→x + y≤n + m→y * k + j < (n + m) * k:=fun {x y j} h1 h2=>by
    have:=hle h2; rw [Nat.add_mul] at this; omega
  have hbw:b < w.heap.size:=block_lt_of_cell (hcs 0 _ (List.getElem?_eq_getElem (by rw [hcl]; exact Nat.mul_pos (by omega) k0)))
  have hvw:vb < w.heap.size:=block_lt_of_cell (hvs 0 _ (List.getElem?_eq_getElem (by rw [hvl]; exact Nat.mul_pos hm k0)))
  have hkk:(n:Int) + (m:Int) - (i:Int)=((n + m - i:Nat):Int):=by omega
  have hik:i + (n + m - i)=n + m:=by omega
  have hin':i * k≤cs.length:=by rw [hcl]; exact hle (by omega)
  have hold:(Builtin.firstCells i0.size i (.slice (some ⟨b,off,none⟩) i c)).run P w.drew = .ok (cs.take (i * k)).toArray w.drew:=by
    rw [hzs]
    exact run_firstCells_some w.drew k i ⟨b,off,none⟩ i c (cs.take (i * k)) (by rw [List.length_take]; omega) (fun j v hj=>by
      rw [Addr.add_lit]
      rw [List.getElem?_take] at hj
      split at hj
      · exact hcs j v hj
      · cases hj)
  have hrz : ∀ ty, (Builtin.append_ #[(ρ.t 24), (ρ.t 3)] ty #[.slice (some ⟨b, off, none⟩) i c, .int .i64 ((n : Int) + (m : Int) - (i : Int))]).run P w =
      .ok (.slice (some ⟨w.heap.size,0,none⟩) (n + m) (grownCap w (n + m) c (ρ.t 9))) (w.drew.alloc (.cells ((cs.take (i * k)).toArray ++ Builtin.zeroCells zr.cells (n + m - i) ++ Builtin.zeroCells zr.cells (grownCap w (n + m) c (ρ.t 9) - (n + m))) (ρ.t 9))):=fun ty=>by
    have h48:(n + m - i) * bt≤281474976710656:=by
      have:(n + m - i) * bt≤(n + m) * bt:=Nat.mul_le_mul_right _ (by omega)
      omega
    have h:=Lib.run_append_grow_zeros w (ρ.t 24) (ρ.t 3) ty (ρ.t 9) i0 _ .i64 .i64 L.t24 L.t3 hi0 hz0 (some ⟨b,off,none⟩) i c (cs.take (i * k)) hold (n + m - i) (by omega) (by omega) (by omega) (by omega) (by rw [hzb]; exact h48) (by rw [hzb,hik]; exact growslice_fits hroom hbig)
    rw [hik] at h
    rw [hkk]
    exact h
  obtain ⟨G,hG⟩:∃G,G=grownCap w (n + m) c (ρ.t 9):=⟨_,rfl⟩
  obtain ⟨ROW,hROW⟩:∃ROW:Array Value,ROW=(cs.take (i * k)).toArray ++ Builtin.zeroCells zr.cells (n + m - i) ++ Builtin.zeroCells zr.cells (G - (n + m)):=⟨_,rfl⟩
  rw [←hG] at hrz ⊢
  rw [←hROW] at hrz ⊢
  have hRl:(n + m) * k≤ROW.size:=by
    rw [hROW]
    simp only [Array.size_append,size_zc,L.zc,List.size_toArray,List.length_take]
    have h2:i * k + (n + m - i) * k=(n + m) * k:=by rw [←Nat.add_mul]; congr 1
    omega
  obtain ⟨W1,hW1⟩:∃W1,W1=w.drew.alloc (.cells ROW (ρ.t 9)):=⟨_,rfl⟩
  rw [←hW1] at hrz
  have hN:∀j,j < (n + m) * k→(W1.cell? ⟨w.heap.size,j,none⟩).isSome=true:=fun j hj=>by
    rw [hW1,World.cell?_alloc_at (w:=w.drew) ROW _ w.heap.size j rfl,Array.getElem?_eq_getElem (by omega)]; rfl
  have hNf:∀j,W1.frozen? ⟨w.heap.size,j,none⟩=false:=fun j=>by rw [hW1]; exact World.frozen?_alloc_at (w:=w.drew) ROW _ w.heap.size j rfl
  have hOb:∀j v,w.cell? ⟨b,j,none⟩=some v→W1.cell? ⟨b,j,none⟩=some v:=fun j v h=>by rw [hW1,World.cell?_alloc_past (w:=w.drew) _ b j hbw]; exact h
  have hOv:∀j v,w.cell? ⟨vb,j,none⟩=some v→W1.cell? ⟨vb,j,none⟩=some v:=fun j v h=>by rw [hW1,World.cell?_alloc_past (w:=w.drew) _ vb j hvw]; exact h
  have hcpA:∀(W:World),(∀x,W.cell? x=W1.cell? x)→(∀x,W.frozen? x=W1.frozen? x)→∀ty dc,(Builtin.copy_ #[(ρ.t 24),(ρ.t 24)] ty #[.slice (some ⟨w.heap.size,i * k,none⟩) (n + m - i) dc,.slice (some ⟨vb,voff,none⟩) m vc]).run P W = .ok (goInt m) (W.setCells w.heap.size (i * k) vs):=fun W hWc hWf ty dc=>by
    have hmin:Nat.min m (n + m - i)=m:=by simp only [Nat.min_def]; split <;> omega
    have:=run_copy_cellsK W (ρ.t 24) (ρ.t 24) ty (ρ.t 9) w.heap.size (i * k) (n + m - i) dc ⟨vb,voff,none⟩ m vc k vs L.t24 hsz (by rw [hvl,hmin])
      (fun j v hj=>by rw [Addr.add_lit,hWc]; exact hOv _ v (hvs j v hj))
      (fun j hj=>by rw [hWc]; exact hN _ (hlt (x:=m) (by rwa [hvl] at hj) (by omega))) (fun j hj=>by rw [hWf]; exact hNf _) h1v
    rw [hmin] at this
    exact this
  have hGn:n + m≤G:=by rw [hG]; exact grownCap_ge w _ _ _
  have hG63:G≤9223372036854775807:=by
    have:=grownCap_le_maxLen w (n + m) c (ρ.t 9) (by unfold maxLen; omega)
    rw [←hG] at this
    unfold maxLen at this
    omega
  have hGi:¬(G=i):=by omega
  have hGim:¬(G=i + m):=by omega
  have hci:¬(c=i):=by omega
  have hbN:b≠w.heap.size:=by omega
  have hdl:(cs.drop (i * k)).length=(n - i) * k:=by rw [List.length_drop,hcl,Nat.sub_mul]
  have hcpB:∀(W:World),(∀x,W.cell? x=(W1.setCells w.heap.size (i * k) vs).cell? x)→(∀x,W.frozen? x=(W1.setCells w.heap.size (i * k) vs).frozen? x)→∀ty dc sc,(Builtin.copy_ #[(ρ.t 24),(ρ.t 24)] ty #[.slice (some ⟨w.heap.size,(i + m) * k,none⟩) (n + m - (i + m)) dc,.slice (some ⟨b,off + i * k,none⟩) (n - i) sc]).run P W = .ok (goInt (n - i:Nat)) (W.setCells w.heap.size ((i + m) * k) (cs.drop (i * k))):=fun W hWc hWf ty dc sc=>by
    have hmin:Nat.min (n - i) (n + m - (i + m))=n - i:=by simp only [Nat.min_def]; split <;> omega
    have:=run_copy_cellsK W (ρ.t 24) (ρ.t 24) ty (ρ.t 9) w.heap.size ((i + m) * k) (n + m - (i + m)) dc ⟨b,off + i * k,none⟩ (n - i) sc k (cs.drop (i * k)) L.t24 hsz (by rw [hdl,hmin])
      (fun j v hj=>by
        rw [Addr.add_lit,hWc,World.cell?_setCells_out _ _ _ _ _ (fun h _=>absurd h hbN),Nat.add_assoc]
        exact hOb _ v (hcs (i * k + j) v (by rwa [List.getElem?_drop] at hj)))
      (fun j hj=>by rw [hWc]; exact isSome_setCells _ _ _ _ (fun t ht=>hN _ (hlt (x:=m) (by rwa [hvl] at ht) (by omega))) _ (hN _ (hlt (x:=n - i) (by rwa [hdl] at hj) (by omega))))
      (fun j hj=>by rw [hWf,World.frozen?_setCells]; exact hNf _) (fun v hv=>h1c v (List.mem_of_mem_drop hv))
    rw [hmin] at this
    exact this
  subst hW1
  have hE1:∀x,((w.alloc (.cells ROW (ρ.t 9))).drew).cell? x=(w.drew.alloc (.cells ROW (ρ.t 9))).cell? x:=fun x=>rfl
  have hE2:∀x,((w.alloc (.cells ROW (ρ.t 9))).drew).frozen? x=(w.drew.alloc (.cells ROW (ρ.t 9))).frozen? x:=fun x=>rfl
  have hF1:∀x,(((w.alloc (.cells ROW (ρ.t 9))).drew.setCells w.heap.size (i * k) vs).drew).cell? x=((w.drew.alloc (.cells ROW (ρ.t 9))).setCells w.heap.size (i * k) vs).cell? x:=fun x=>rfl
  have hF2:∀x,(((w.alloc (.cells ROW (ρ.t 9))).drew.setCells w.heap.size (i * k) vs).drew).frozen? x=((w.drew.alloc (.cells ROW (ρ.t 9))).setCells w.heap.size (i * k) vs).frozen? x:=fun x=>rfl
  have hw1:IntKind.i64.wrap ((i:Int) + (m:Int))=(i:Int) + (m:Int):=by rw [IntKind.wrap_i64]; omega
  have hb1:(0:Int)≤(i:Int) + (m:Int):=by omega
  have hin:i≤n:=by omega
  have htn:((i:Int) + (m:Int)).toNat=i + m:=by omega
  have hb3:(i:Int)≤(n:Int):=by omega
  clear hkk hik hold hROW hG hRl
  obtain ⟨_,_,FG⟩:=L.f22
  go_enter FG,Body2.n22_ntmps ρ
  go_wp2_with (first
    | (at_builtin; refine Lib.wpList_append_run _ rfl _ _ _ _ rfl _ _ rfl rfl _ _ (hrz _) ?_)
    | (at_builtin; refine wpList_copy_runI _ rfl _ _ (ρ.t 24) (ρ.t 24) rfl _ _ rfl rfl (hcpA _ hE1 hE2 _ _) ?_)
    | (at_builtin; refine wpList_copy_runI _ rfl _ _ (ρ.t 24) (ρ.t 24) rfl _ _ rfl rfl (hcpB _ (fun _=>rfl) (fun _=>rfl) _ _ _) ?_))
  go_region_law_o (refine step_copy_runI rfl _ _ (ρ.t 24) (ρ.t 24) rfl (.slice (some ⟨w.heap.size,(i + m) * k,none⟩) (n + m - (i + m)) (G - (i + m))) (.slice (some ⟨b,off + i * k,none⟩) (n - i) (c - i)) (by simp [Act.eval,Act.put]) (by simp [Act.eval,Act.put]) (hcpB _ hF1 hF2 (ρ.t 3) (G - (i + m)) (c - i)) ?_)
  go_wp2
  go_ret
  exact ⟨rfl,rfl⟩
end Go.Proofs
namespace Go.AM
open Go
abbrev CallW:=Tgt→List AV→St→(AV→St→Prop)→Prop
def noC:CallF:=fun _ _ _=>none
def callOf:Op→Option (Call×Operand)
  | .call c=>match c.callee with
    | .value g=>some (c,g)
    | _=>none
  | _=>none
def setHeap (σ:St) (n:Nat) (o:HObj):St:={ σ with heap:=σ.heap.set n o }
def iterOf (σ:St) (x:AV):Option (Nat×IterA) :=
  match x with
  | .ptr (.heap n) 0=>match σ.heap[n]? with
    | some (.iter i)=>some (n,i)
    | _=>none
  | _=>none
def opW (C:CallW) (P:Program) (cfg:Cfg) (f:FuncId) (o:Oper) (fr:Fr) (σ:St) (K:AV→Fr→St→Prop):Prop :=
  match o.op with
  | .range t x=>match P.underlying t,seen fr x with
    | some (.map ..),.map h=>match mapOf σ (.map h) with
      | some (_,c)=>K (.ptr (.heap σ.heap.length) 0) fr { σ with heap:=σ.heap ++ [.iter ⟨some h,c,[],c⟩] }
      | none=>False
    | some (.map ..),.s .nilM=>K (.ptr (.heap σ.heap.length) 0) fr { σ with heap:=σ.heap ++ [.iter ⟨none,0,[],0⟩] }
    | _,_=>False
  | .next x false=>match iterOf σ (seen fr x) with
    | some (n,i)=>match i.map with
      | none=>K (.tup [.bool false]) fr σ
      | some h=>match mapOf σ (.map h) with
        | some (es, c) => (i.seen = [] ∨ es = [] ∨ ∃ e ∈ es, e.born < i.stepped) ∧
            ((∀e∈es,e.born∈i.seen∨i.since≤e.born)→K (.tup [.bool false]) fr σ) ∧
            ∀e∈es,e.born∉i.seen→K (.tup [.bool true,e.key,e.val]) fr (setHeap σ n (.iter { i with seen:=i.seen ++ [e.born],stepped:=c }))
        | none=>False
    | none=>False
  | .entry x=>match iterOf σ (seen fr x) with
    | some (n,i)=>match i.map,i.seen.getLast? with
      | some h,some b=>match mapOf σ (.map h) with
        | some (es,c)=>c=i.stepped∧match es.find? (fun e=>e.born == b) with
          | some e=>K (.tup [e.key,e.val]) fr σ
          | none=>False
        | none=>False
      | _,_=>False
    | none=>False
  | op=>match callOf op with
    | some (c,g)=>match seen fr g with
      | .fn (.func h) first captured=>C (.fn h) (first ++ (takenAll fr c.args.toList).1 ++ captured) σ fun v σ'=>K v (takenAll fr c.args.toList).2 σ'
      | .yield h=>C (.yield h) (takenAll fr c.args.toList).1 σ fun v σ'=>K v (takenAll fr c.args.toList).2 σ'
      | _=>False
    | none=>match evOp noC P cfg f o fr σ with
      | some (v,fr',σ')=>K v fr' σ'
      | none=>False
def stepW (C:CallW) (P:Program) (cfg:Cfg) (f:FuncId) (ops:Array Oper) (i:Nat) (fr:Fr) (σ:St) (K:Fr→St→Prop):Prop :=
  match ops[i]? with
  | none=>False
  | some o=>match guardA ops fr o with
    | some true=>opW C P cfg f o (settle fr (settled o.op)) σ fun v fr' σ'=>K (putA o.dst v fr') σ'
    | some false=>K (putA o.dst (.tup []) fr) σ
    | none=>False
def maybeNil:AV→AV→Bool
  | .list .sh _ [],.s .nilS=>true
  | .s .nilS,.list .sh _ []=>true
  | _,_=>false
def isEq:BinOp→Bool
  | .eql | .neq=>true
  | _=>false
def maybeOf (P:Program) (fr:Fr):Op→Bool
  | .binOp op t x y _=>isEq op && typeKind P t == some 1 && maybeNil (seen fr x) (seen fr y)
  | _=>false
def maybeW (P:Program) (ops:Array Oper) (i:Nat) (fr:Fr):Bool :=
  match ops[i]? with
  | some o=>(match guardA ops fr o with
    | some true=>true
    | _=>false) && maybeOf P fr o.op
  | none=>false
def opsW (C:CallW) (P:Program) (cfg:Cfg) (f:FuncId) (ops:Array Oper):List Nat→Fr→St→(Fr→St→Prop)→Prop
  | [],fr,σ,K=>K fr σ
  | i :: rest, fr, σ, K => stepW C P cfg f ops i fr σ (fun fr σ => opsW C P cfg f ops rest fr σ K) ∨
      (maybeW P ops i fr=true∧∀b,opsW C P cfg f ops rest (putA (dstOf ops i) (.bool b) fr) σ K)
inductive PT where
  | done
  | rd (i:Nat) (rest:PT)
  | mv (i:Nat) (rest alt:PT)
  | stop
  deriving Inhabited
def closeMasks:List Oper→List Nat→List Nat
  | [],acc=>acc
  | o :: os,acc=>closeMasks os (acc ++ [o.after.toList.foldl (fun m e=>if Region.binds .any e then m ||| 2 ^ e.on ||| acc.getD e.on 0 else m) 0])
def hangs (ops:Array Oper) (j k:Nat):Bool:=((closeMasks ops.toList []).getD j 0).testBit k
def planW (C:CallW) (P:Program) (cfg:Cfg) (f:FuncId) (ops:Array Oper):PT→Fr→St→List (Nat×(St→Bool))→(Fr→St→Prop)→Prop
  | .done,fr,σ,_,K=>K fr σ
  | .rd i rest,fr,σ,chk,K=>match readV noC P cfg f ops i fr σ with
    | some v=>planW C P cfg f ops rest (putA (dstOf ops i) v fr) σ (if depA ops i fr then (i,fun σ'=>sameV (readV noC P cfg f ops i fr σ') v) :: chk else chk) K
    | none=>False
  | .mv i rest alt,fr,σ,chk,K =>
    (stepW C P cfg f ops i fr σ fun fr' σ'=>(chk.filter fun c => !hangs ops i c.1).all (fun c=>c.2 σ')=true∧planW C P cfg f ops rest fr' σ' (chk.filter fun c => !hangs ops i c.1) K) ∧
    planW C P cfg f ops alt fr σ chk K
  | .stop,_,_,_,_=>True
def PT.alts:PT→List Nat
  | .mv i _ alt=>i :: alt.alts
  | _=>[]
def PT.depth:PT→Nat
  | .rd _ rest=>rest.depth + 1
  | .mv _ rest alt=>max (rest.depth + 1) alt.depth
  | _=>0
def treeFast (is:List Info):PT→Bool→Nat→Bool
  | .done,top,listed=>top && allFrom (fun I i => !I.ready i listed) is 0
  | .rd i rest,top,listed=>top && match nth is i with
    | none=>false
    | some I=>I.ready i listed && I.rd && allFrom (fun J j=>j == i || listed.testBit j || J.edges.testBit i || I.apart J) is 0 && treeFast is rest true (listed ||| 2 ^ i)
  | .mv i rest alt,top,listed=>(!top || allFrom (fun J j=>j == i || alt.alts.contains j || !J.ready j listed) is 0) && (match nth is i with
    | none=>false
    | some I=>I.ready i listed && !I.rd) && treeFast is rest true (listed ||| 2 ^ i) && treeFast is alt false listed
  | .stop,top,_ => !top
abbrev Trees:=FuncId→Nat→PT
def treesIn (cfg:Cfg) (tr:Trees) (f:FuncId):Code→Bool
  | .region id ops true=>(match tr f id with
    | .stop=>true
    | t=>decide (t.depth≤ops.size) && treeFast (ops.toList.map (infoOf cfg f ops)) t true 0)
  | .seq a b=>treesIn cfg tr f a && treesIn cfg tr f b
  | .cond _ a b=>treesIn cfg tr f a && treesIn cfg tr f b
  | .block _ b=>treesIn cfg tr f b
  | .loop b=>treesIn cfg tr f b
  | .rangeFunc _ _ a b=>treesIn cfg tr f a && treesIn cfg tr f b
  | _=>true
def treesOK (P:Program) (cfg:Cfg) (tr:Trees):Bool :=
  (List.range P.funcs.size).all fun f=>match P.funcs[f]? with
    | some fn=>match fn.body with
      | some c=>treesIn cfg tr f c
      | none=>true
    | none=>true
abbrev KC:=Ex→Fr→St→Prop
def roundK (I:Fr→St→Prop) (K:KC):KC:=fun e fr σ=>match e with
  | .normal=>I fr σ
  | .exit id=>K (.exit id) fr σ
  | .ret=>K .ret fr σ
def blockK (id:Nat) (K:KC):KC:=fun e fr σ=>match e with
  | .normal=>K .normal fr σ
  | .exit id'=>if id'=id then K .normal fr σ else K (.exit id') fr σ
  | .ret=>K .ret fr σ
def loopW (body:Fr→St→KC→Prop) (mask:List Bool) (n0:Nat) (fr:Fr) (σ:St) (K:KC):Prop :=
  ∀I:Fr→St→Prop,(∀fr σ,underL n0 (keep mask fr)=true→body (keep mask fr) { σ with stk:=σ.stk.take n0 } (roundK I K)→I fr σ)→I fr σ
def isStop:PT→Bool
  | .stop=>true
  | _=>false
def codeW (C:CallW) (P:Program) (cfg:Cfg) (tr:Trees) (rd:Bool) (f:FuncId):Nat→Code→Fr→St→KC→Prop
  | _,.skip,fr,σ,K=>K .normal fr σ
  | _,.region _ ops false,fr,σ,K=>opsW C P cfg f ops (List.range ops.size) fr σ (K .normal)
  | _,.region id ops true,fr,σ,K=>isStop (tr f id)=false∧planW C P cfg f ops (tr f id) fr σ [] (K .normal)
  | k,.seq a b,fr,σ,K=>codeW C P cfg tr rd f k a fr σ (roundK (fun fr σ=>codeW C P cfg tr rd f k b fr σ K) K)
  | k,.cond c a b,fr,σ,K=>match opnd fr c with
    | .s (.bool x)=>(x=true→codeW C P cfg tr rd f k a fr σ K)∧(x=false→codeW C P cfg tr rd f k b fr σ K)
    | _=>False
  | _,.block id b,fr,σ,K=>codeW C P cfg tr rd f id b fr σ (blockK id K)
  | k,.loop b,fr,σ,K=>loopW (codeW C P cfg tr rd f k b) (cfg.mask f k) σ.stk.length fr σ K
  | _,.exit id,fr,σ,K=>K (.exit id) fr σ
  | _,.ret,fr,σ,K=>K .ret fr σ
  | _,.rangeFunc g ps a b,fr,σ,K=>rd=false ∧
    match seen fr g with
    | .fn (.func h) first captured=>hasBody P h=true ∧
      C (.fn h) (first ++ [.yield σ.heap.length] ++ captured) { σ with heap:=σ.heap ++ [.loop { fid:=f,fr:=fr.map lasting,params:=ps.toList,assign:=a,body:=b,ready:=true,pending:=none }] }
        fun _ σ'=>match σ'.heap[σ.heap.length]? with
          | some (.loop l)=>(l.ready || l.pending.isSome)=true∧K (l.pending.getD .normal) fr { σ' with heap:=σ'.heap.set σ.heap.length .dead }
          | _=>False
    | _=>False
  | _,_,_,_,_=>False
def finishW (P:Program) (base:Nat) (fn:Func) (K:AV→St→Prop):KC:=fun e fr σ=>match e with
  | .exit _=>False
  | _=>match finish P base fn fr σ with
    | some (v,σ')=>K v σ'
    | none=>False
def bodyW (C:CallW) (P:Program) (cfg:Cfg) (tr:Trees) (f:FuncId) (args:List AV) (σ:St) (K:AV→St→Prop):Prop :=
  match P.funcs[f]? with
  | some fn=>match fn.body with
    | some c=>codeW C P cfg tr false f 0 c (args ++ List.replicate (fn.ntmps - args.length) .undef) σ (finishW P σ.stk.length fn K)
    | none=>False
  | none=>False
def roundW (C:CallW) (P:Program) (cfg:Cfg) (tr:Trees) (h:Nat) (args:List AV) (σ:St) (K:AV→St→Prop):Prop :=
  match loopOf σ h with
  | some l => args.length = l.params.length ∧ treesIn cfg tr l.fid l.assign = true ∧ treesIn cfg tr l.fid l.body = true ∧
      codeW C P cfg tr true l.fid 0 l.assign (setAll l.params (args.map AV.look) l.fr) σ fun e fr σ1=>e = .normal∧match loopOf σ1 h with
        | some l1=>l1.ready=true∧l1.pending=none∧codeW C P cfg tr true l.fid 0 l.body fr (setLoop σ1 h { l1 with ready:=false }) fun e _ σ'=>match loopOf σ' h with
          | some l2=>K (.bool (e = .normal)) { setLoop σ' h { l2 with ready:=decide (e = .normal),pending:=if e = .normal then none else some e } with stk:=σ'.stk.take σ.stk.length }
          | none=>False
        | none=>False
  | none=>False
def unfoldW (C:CallW) (P:Program) (cfg:Cfg) (tr:Trees):CallW:=fun t args σ K =>
  match t with
  | .fn f=>match cfg.prim f with
    | some p=>match p args σ with
      | some (v,σ')=>K v σ'
      | none=>False
    | none=>bodyW C P cfg tr f args σ K
  | .yield h=>roundW C P cfg tr h args σ K
def EncK (k:Nat) {α:Type} (f:α→AV):Prop:=∀x,∃cs vs,f x = .agg cs∧cs.length=k∧scalars cs=some vs
structure KitW (P:Program) (X:CallW):Prop where
  alone:∀(f:FuncId) (args bs:List AV) (σ:St) (K Q:AV→St→Prop),RoL σ args bs→X (.fn f) bs ⟨[],[]⟩ Q→(∀v s,Q v s→v.alone=true∧K v σ)→X (.fn f) args σ K
  dn:∀(t:Tgt) (args:List AV) (σ:St) (K:AV→St→Prop) (b sz:Nat) (es:List AV),σ.heap[b]? = some (.cells [.list .uniq sz es])→X t args { σ with heap:=σ.heap.set b (.cells [.list .sh sz es]) } K→X t args σ K
  srt:∀(ρ : Shelf.Ren),Proofs.SlLaysF0.n6 P ρ→∀(k:Nat),(∀w,(Go.isAgg (ρ.t 24)).run P w = .ok true w)→(∀w,(Go.sizeOf (ρ.t 24)).run P w = .ok k w) →
    ∀(α:Type) (i:Inhabited α) (f:α→AV) (cf:α→α→Int) (h:FuncId) (n:Nat) (d:Array α) (S:List (List AV)) (H:List HObj) (K:AV→St→Prop),EncK k f→Sort.SWO (fun x y=>decide (cf x y < 0))→hasBody P h=true →
    (∀x y,X (.fn h) [f x,f y] ⟨[],[]⟩ fun v _=>v = .i (cf x y))→S[n]? = some (d.toList.flatMap fun x=>(f x).cells)→d.size≤2305843009213693952 →
    (∀R:Array α,Sort.PermIn 0 d.size d R→Sort.SortedIn (fun x y=>decide (cf x y < 0)) 0 d.size R→K (.tup []) ⟨S.set n (R.toList.flatMap fun x=>(f x).cells),H⟩) →
    X (.fn (ρ.f 6)) [.row (.stk n) 0 d.size d.size,.fn (.func h) [] []] ⟨S,H⟩ K
  srtN:∀(ρ : Shelf.Ren),Proofs.SlLaysF0.n6 P ρ→∀(y:AV) (σ:St) (K:AV→St→Prop),K (.tup []) σ→X (.fn (ρ.f 6)) [.s .nilS,y] σ K
  srI:∀(ρ : Shelf.Ren),Proofs.SlLaysM.n5 P ρ→∀(n:Nat) (l:List Int) (S:List (List AV)) (H:List HObj) (K:AV→St→Prop),S[n]? = some (l.map fun x => .s (.int .i64 x))→l.length≤2305843009213693952 →
    K (.tup []) ⟨S.set n ((l.mergeSort fun x y=>decide (x≤y)).map fun x => .s (.int .i64 x)),H⟩→X (.fn (ρ.f 5)) [.row (.stk n) 0 l.length l.length] ⟨S,H⟩ K
  srIN:∀(ρ : Shelf.Ren),Proofs.SlLaysM.n5 P ρ→∀(σ:St) (K:AV→St→Prop),K (.tup []) σ→X (.fn (ρ.f 5)) [.s .nilS] σ K
  ins:∀(ρ : Shelf.Ren) (k:Nat) (zr:Value) (bt:Nat),Proofs.InsL P ρ k zr bt→1 < k→∀(es items:List AV) (i:Nat) (fl:Fl) (σ:St) (K:AV→St→Prop),i≤es.length→items≠[]→(es.length + items.length) * bt≤140737488355328→fl = .sh∨fl = .full →
    K (.list .uniq k (es.take i ++ items ++ es.drop i)) σ→X (.fn (ρ.f 22)) [.list .uniq k es,.s (.int .i64 i),.list fl k items] σ K
  insN:∀(ρ : Shelf.Ren) (k:Nat) (zr:Value) (bt:Nat),Proofs.InsL P ρ k zr bt→1 < k→∀(items:List AV) (fl:Fl) (σ:St) (K:AV→St→Prop),items≠[]→items.length * bt≤140737488355328→fl = .sh∨fl = .full →
    K (.list .uniq k items) σ→X (.fn (ρ.f 22)) [.s .nilS,.s (.int .i64 (0:Nat)),.list fl k items] σ K
structure ClosedW (P:Program) (cfg:Cfg) (tr:Trees) (X:CallW):Prop extends KitW P X where
  unf:∀t args σ K,unfoldW X P cfg tr t args σ K→X t args σ K
  arg:∀t (args:List AV) (i:Nat) (a b:AV) σ K,args[i]? = some a→WkL [a.sh] [b]→X t (args.set i b) σ K→X t args σ K
  res:∀t args σ (K:AV→St→Prop),X t args σ (fun v s=>∃b,(b=v∨WkL [v.sh] [b])∧K b s)→X t args σ K
def EvW (P:Program) (cfg:Cfg) (tr:Trees):CallW:=fun t args σ K=>∀X:CallW,ClosedW P cfg tr X→X t args σ K
section
variable {P:Program} {cfg:Cfg} {tr:Trees} {f:FuncId} {C C':CallW} {ops:Array Oper}
def LeC (C C':CallW):Prop:=∀t args σ (K K':AV→St→Prop),(∀v s,K v s→K' v s)→C t args σ K→C' t args σ K'
theorem opW_mono (hC:LeC C C') {o:Oper} {fr:Fr} {σ:St} {K K':AV→Fr→St→Prop} (hK:∀v fr s,K v fr s→K' v fr s) (h:opW C P cfg f o fr σ K):opW C' P cfg f o fr σ K':=by
  unfold opW at h ⊢
  split at h
  · split at h
    · split at h
      · exact hK _ _ _ h
      · exact h.elim
    · exact hK _ _ _ h
    · exact h.elim
  · split at h
    · split at h
      · exact hK _ _ _ h
      · split at h
        · exact ⟨h.1,fun k=>hK _ _ _ (h.2.1 k),fun e he hs=>hK _ _ _ (h.2.2 e he hs)⟩
        · exact h.elim
    · exact h.elim
  · split at h
    · split at h
      · split at h
        · refine ⟨h.1,?_⟩
          have h2:=h.2
          split at h2
          · exact hK _ _ _ h2
          · exact h2.elim
        · exact h.elim
      · exact h.elim
    · exact h.elim
  · split at h
    · split at h
      · exact hC _ _ _ _ _ (fun v s k=>hK _ _ _ k) h
      · exact hC _ _ _ _ _ (fun v s k=>hK _ _ _ k) h
      · exact h.elim
    · split at h
      · exact hK _ _ _ h
      · exact h.elim
theorem stepW_mono (hC:LeC C C') {i:Nat} {fr:Fr} {σ:St} {K K':Fr→St→Prop} (hK:∀fr s,K fr s→K' fr s) (h:stepW C P cfg f ops i fr σ K):stepW C' P cfg f ops i fr σ K':=by
  unfold stepW at h ⊢
  split at h
  · exact h.elim
  · split at h
    · exact opW_mono hC (fun _ _ _ k=>hK _ _ k) h
    · exact hK _ _ h
    · exact h.elim
theorem opsW_mono (hC:LeC C C'):∀(l:List Nat) {fr:Fr} {σ:St} {K K':Fr→St→Prop},(∀fr s,K fr s→K' fr s)→opsW C P cfg f ops l fr σ K→opsW C' P cfg f ops l fr σ K'
  | [],fr,σ,K,K',hK,h=>hK _ _ h
  | i :: l,fr,σ,K,K',hK,h=>h.imp (fun h=>stepW_mono hC (fun fr s k=>opsW_mono hC l hK k) h) fun h=>⟨h.1,fun b=>opsW_mono hC l hK (h.2 b)⟩
theorem planW_mono (hC:LeC C C'):∀(t:PT) {fr:Fr} {σ:St} {chk:List (Nat×(St→Bool))} {K K':Fr→St→Prop},(∀fr s,K fr s→K' fr s)→planW C P cfg f ops t fr σ chk K→planW C' P cfg f ops t fr σ chk K'
  | .done,fr,σ,chk,K,K',hK,h=>hK _ _ h
  | .rd i rest,fr,σ,chk,K,K',hK,h=>by
    simp only [planW] at h ⊢
    split at h
    · exact planW_mono hC rest hK h
    · exact h.elim
  | .mv i rest alt,fr,σ,chk,K,K',hK,h=>⟨stepW_mono hC (fun fr s k=>⟨k.1,planW_mono hC rest hK k.2⟩) h.1,planW_mono hC alt hK h.2⟩
  | .stop,fr,σ,chk,K,K',hK,h=>trivial
theorem roundK_mono {I I':Fr→St→Prop} {K K':KC} (hI:∀fr s,I fr s→I' fr s) (hK:∀e fr s,K e fr s→K' e fr s):∀e fr s,roundK I K e fr s→roundK I' K' e fr s:=by
  intro e fr s h
  cases e with
  | normal=>exact hI _ _ h
  | exit id=>exact hK _ _ _ h
  | ret=>exact hK _ _ _ h
theorem blockK_mono {id:Nat} {K K':KC} (hK:∀e fr s,K e fr s→K' e fr s):∀e fr s,blockK id K e fr s→blockK id K' e fr s:=by
  intro e fr s h
  cases e with
  | normal=>exact hK _ _ _ h
  | exit id' =>
    simp only [blockK] at h ⊢
    by_cases e:id'=id
    · rw [if_pos e] at h ⊢; exact hK _ _ _ h
    · rw [if_neg e] at h ⊢; exact hK _ _ _ h
  | ret=>exact hK _ _ _ h
theorem codeW_mono (hC:LeC C C') {rd:Bool}:∀(c:Code) {k:Nat} {fr:Fr} {σ:St} {K K':KC},(∀e fr s,K e fr s→K' e fr s)→codeW C P cfg tr rd f k c fr σ K→codeW C' P cfg tr rd f k c fr σ K'
  | .skip,k,fr,σ,K,K',hK,h=>hK _ _ _ h
  | .region id ops false,k,fr,σ,K,K',hK,h=>by
    simp only [codeW] at h ⊢
    exact opsW_mono hC _ (fun _ _ k=>hK _ _ _ k) h
  | .region id ops true,k,fr,σ,K,K',hK,h=>by
    simp only [codeW] at h ⊢
    exact ⟨h.1,planW_mono hC _ (fun _ _ k=>hK _ _ _ k) h.2⟩
  | .seq a b,k,fr,σ,K,K',hK,h=>by
    simp only [codeW] at h ⊢
    exact codeW_mono hC a (roundK_mono (fun fr s h=>codeW_mono hC b hK h) hK) h
  | .cond c a b,k,fr,σ,K,K',hK,h=>by
    simp only [codeW] at h ⊢
    split at h
    · exact ⟨fun hx=>codeW_mono hC a hK (h.1 hx),fun hx=>codeW_mono hC b hK (h.2 hx)⟩
    · exact h.elim
  | .block id b,k,fr,σ,K,K',hK,h=>by
    simp only [codeW] at h ⊢
    exact codeW_mono hC b (blockK_mono hK) h
  | .loop b,k,fr,σ,K,K',hK,h=>by
    simp only [codeW] at h ⊢
    intro I hI
    exact h I fun fr s hu hb=>hI fr s hu (codeW_mono hC b (roundK_mono (fun _ _ h=>h) hK) hb)
  | .exit id,k,fr,σ,K,K',hK,h=>hK _ _ _ h
  | .ret,k,fr,σ,K,K',hK,h=>hK _ _ _ h
  | .rangeFunc g ps a b,k,fr,σ,K,K',hK,h=>by
    simp only [codeW] at h ⊢
    refine ⟨h.1,?_⟩
    have h2:=h.2
    split at h2
    · refine ⟨h2.1,hC _ _ _ _ _ (fun v s hk => ?_) h2.2⟩
      split at hk
      · exact ⟨hk.1,hK _ _ _ hk.2⟩
      · exact hk.elim
    · exact h2.elim
  | .label _,k,fr,σ,K,K',hK,h=>by simp only [codeW] at h
  | .goto _,k,fr,σ,K,K',hK,h=>by simp only [codeW] at h
  | .scope _,k,fr,σ,K,K',hK,h=>by simp only [codeW] at h
  | .refuse _,k,fr,σ,K,K',hK,h=>by simp only [codeW] at h
theorem unfoldW_mono (hC:LeC C C'):LeC (unfoldW C P cfg tr) (unfoldW C' P cfg tr):=by
  intro t args σ K K' hK h
  unfold unfoldW at h ⊢
  split at h
  · split at h
    · split at h
      · exact hK _ _ h
      · exact h.elim
    · unfold bodyW at h ⊢
      split at h
      · split at h
        · refine codeW_mono hC _ (fun e fr s k => ?_) h
          unfold finishW at k ⊢
          split at k
          · exact k.elim
          · split at k
            · exact hK _ _ k
            · exact k.elim
        · exact h.elim
      · exact h.elim
  · unfold roundW at h ⊢
    split at h
    · refine ⟨h.1,h.2.1,h.2.2.1,codeW_mono hC _ (fun e fr s k=>⟨k.1,?_⟩) h.2.2.2⟩
      have k2:=k.2
      split at k2
      · refine ⟨k2.1,k2.2.1,codeW_mono hC _ (fun e fr s k => ?_) k2.2.2⟩
        split at k
        · exact hK _ _ k
        · exact k.elim
      · exact k2.elim
    · exact h.elim
theorem EvW.le:LeC (EvW P cfg tr) (EvW P cfg tr):=by
  intro t args σ K K' hK h X hX
  refine h (fun t args σ K=>∀K',(∀v s,K v s→K' v s)→X t args σ K') ⟨⟨?_,?_,?_,?_,?_,?_,?_,?_⟩,fun t args σ K h K' hK=>hX.unf _ _ _ _ (unfoldW_mono (fun t args σ K K1 h1 h2=>h2 K1 h1) t args σ K K' hK h),?_,?_⟩ K' hK
  · intro f args bs σ K Q h1 h2 h3 K' hK
    exact hX.alone f args bs σ K' Q h1 (h2 Q fun _ _ h=>h) fun v s h=>⟨(h3 v s h).1,hK _ _ (h3 v s h).2⟩
  · intro t args σ K b sz es h1 h2 K' hK
    exact hX.dn t args σ K' b sz es h1 (h2 K' hK)
  · intro ρ L k ha hz α i f cf h n d S H K h1 h2 h3 h4 h5 h6 h7 K' hK
    exact hX.srt ρ L k ha hz α i f cf h n d S H K' h1 h2 h3 (fun x y=>h4 x y _ fun _ _ h=>h) h5 h6 fun R h8 h9=>hK _ _ (h7 R h8 h9)
  · intro ρ L y σ K h1 K' hK
    exact hX.srtN ρ L y σ K' (hK _ _ h1)
  · intro ρ L n l S H K h1 h2 h3 K' hK
    exact hX.srI ρ L n l S H K' h1 h2 (hK _ _ h3)
  · intro ρ L σ K h1 K' hK
    exact hX.srIN ρ L σ K' (hK _ _ h1)
  · intro ρ k zr bt L h0 es items i fl σ K h1 h2 h3 h4 h5 K' hK
    exact hX.ins ρ k zr bt L h0 es items i fl σ K' h1 h2 h3 h4 (hK _ _ h5)
  · intro ρ k zr bt L h0 items fl σ K h2 h3 h4 h5 K' hK
    exact hX.insN ρ k zr bt L h0 items fl σ K' h2 h3 h4 (hK _ _ h5)
  · intro t args i a b σ K hi hw h K' hK
    exact hX.arg _ _ _ _ _ _ _ hi hw (h K' hK)
  · intro t args σ K h K' hK
    exact hX.res _ _ _ _ (h _ fun v s ⟨b,h1,h2⟩=>⟨b,h1,hK _ _ h2⟩)
theorem EvW.mono {t:Tgt} {args:List AV} {σ:St} {K K':AV→St→Prop} (h:EvW P cfg tr t args σ K) (hK:∀v s,K v s→K' v s):EvW P cfg tr t args σ K':=EvW.le t args σ K K' hK h
theorem EvW.fold {t:Tgt} {args:List AV} {σ:St} {K:AV→St→Prop} (h:unfoldW (EvW P cfg tr) P cfg tr t args σ K):EvW P cfg tr t args σ K:=by
  intro X hX
  have hle:LeC (EvW P cfg tr) X:=fun t args σ K K' hK h=>EvW.mono h hK X hX
  exact hX.unf _ _ _ _ (unfoldW_mono hle t args σ K K (fun _ _ h=>h) h)
theorem EvW.arg {t:Tgt} {args:List AV} {i:Nat} {a b:AV} {σ:St} {K:AV→St→Prop} (hi:args[i]? = some a) (hw:WkL [a.sh] [b]) (h:EvW P cfg tr t (args.set i b) σ K):EvW P cfg tr t args σ K :=
  fun X hX=>hX.arg _ _ _ _ _ _ _ hi hw (h X hX)
theorem EvW.res {t:Tgt} {args:List AV} {σ:St} {K:AV→St→Prop} (h:EvW P cfg tr t args σ fun v s=>∃b,(b=v∨WkL [v.sh] [b])∧K b s):EvW P cfg tr t args σ K :=
  fun X hX=>hX.res _ _ _ _ (h X hX)
theorem EvW.kit:KitW P (EvW P cfg tr) where
  alone f args bs σ K Q h1 h2 h3 X hX:=hX.alone f args bs σ K Q h1 (h2 X hX) h3
  dn t args σ K b sz es h1 h2 X hX:=hX.dn t args σ K b sz es h1 (h2 X hX)
  srt ρ L k ha hz α i f cf h n d S H K h1 h2 h3 h4 h5 h6 h7 X hX:=hX.srt ρ L k ha hz α i f cf h n d S H K h1 h2 h3 (fun x y=>h4 x y X hX) h5 h6 h7
  srtN ρ L y σ K h1 X hX:=hX.srtN ρ L y σ K h1
  srI ρ L n l S H K h1 h2 h3 X hX:=hX.srI ρ L n l S H K h1 h2 h3
  srIN ρ L σ K h1 X hX:=hX.srIN ρ L σ K h1
  ins ρ k zr bt L h0 es items i fl σ K h1 h2 h3 h4 h5 X hX:=hX.ins ρ k zr bt L h0 es items i fl σ K h1 h2 h3 h4 h5
  insN ρ k zr bt L h0 items fl σ K h2 h3 h4 h5 X hX:=hX.insN ρ k zr bt L h0 items fl σ K h2 h3 h4 h5
inductive WkF:List AV→List AV→Prop
  | nil:WkF [] []
  | same {a:AV} {azz bs:List AV}:WkF azz bs→WkF (a :: azz) (a :: bs)
  | wk {a b:AV} {azz bs:List AV}:WkL [a.sh] [b]→WkF azz bs→WkF (a :: azz) (b :: bs)
theorem EvW.args {t:Tgt} {azz bs:List AV} {σ:St} {K:AV→St→Prop} (hw:WkF azz bs) (h:EvW P cfg tr t bs σ K):EvW P cfg tr t azz σ K:=by
  have main:∀(pre:List AV),EvW P cfg tr t (pre ++ bs) σ K→EvW P cfg tr t (pre ++ azz) σ K:=by
    clear h
    induction hw with
    | nil=>exact fun _ h=>h
    | @same a azz bs _ ih=>intro pre h; have:=ih (pre ++ [a]) (by simpa using h); simpa using this
    | @wk a b azz bs h1 _ ih =>
      intro pre h
      refine EvW.arg (i:=pre.length) (a:=a) (b:=b) (by simp) h1 ?_
      have:=ih (pre ++ [b]) (by simpa using h)
      simpa using this
  exact main [] h
end
end Go.AM
namespace Go.AM
open Go
section
variable {P:Program} {g g' g0 g1 g2:G} {w w' w0 w1:World} {ow ow' ow0 ow1:Own} {σ σ':St} {fr fr':Fr} {tm:Array Value} {a:Act} {dst:Option Tmp}
theorem noCells_iter (m:Option Nat) (s:Nat) (seen:Array Nat) (c:Nat):NoCells (.mapIter m s seen c):=fun _ _ _ h=>by cases h
theorem Out.ofWay {v:AV} {val:Value} (r:Rel g' w' ow1 fr' tm σ') (W:Way g w ow g' w' ow1) (hv:V g' w' v val):∃ow',Out g w ow dst v fr' σ' tm g' w' ow' val :=
  Out.of r (PV.of (o:=Nobody) hv) (Free.nobody _ _) W.tr (fun p b o h=>W.may b o (.inr ⟨p,h⟩)) (fun _ _ h=>h.elim) (fun b o h1 h2=>W.may b o (.inl ⟨h1,h2⟩)) W.keep W.hbn
theorem Rel.newIter (r : Rel g w ow fr tm σ) {i : IterA} {m : Option Nat} (hm0 : i.map = none → m = none) (hm1 : ∀ h, i.map = some h → ∃ mb, m = some mb ∧ g.hb[h]? = some mb) :
    ∃g',Rel g' (w.alloc (.mapIter m i.since i.seen.toArray i.stepped)) ow fr tm { σ with heap:=σ.heap ++ [.iter i] }∧Way g w ow g' (w.alloc (.mapIter m i.since i.seen.toArray i.stepped)) ow∧g'.hb[σ.heap.length]? = some w.heap.size:=by
  generalize hq:Obj.mapIter m i.since i.seen.toArray i.stepped=q
  have hnew:(w.alloc q).heap[w.heap.size]? = some q:=by
    show (w.heap.push _)[w.heap.size]? = _
    simp
  have t:Tr Nought g w ⟨g.sb,g.hb ++ [w.heap.size],fun b o=>g.wr b o∨b=w.heap.size∧o=0⟩ (w.alloc q):=Tr.new (ob:=q) rfl (X:=fun o=>o=0) (fun _ _ h=>h) (fun n b hn=>by rw [List.getElem?_append_left (List.getElem?_eq_some_iff.1 hn).1]; exact hn)
  have hlt:∀{b:Nat},g.isBox b→b≠w.heap.size:=fun hb e=>by have:=G.isBox_lt r.ss hb; omega
  have hib:∀b,(⟨g.sb,g.hb ++ [w.heap.size],fun b o=>g.wr b o∨b=w.heap.size∧o=0⟩:G).isBox b→g.isBox b∨b=w.heap.size:=fun b hb=>by
    rcases hb with hb | hb
    · exact .inl (.inl hb)
    · rcases List.mem_append.1 hb with hb | hb
      · exact .inl (.inr hb)
      · exact .inr (by simpa using hb)
  have hown:∀p b o,ow p b o→b < w.heap.size:=fun p b o h=>r.ss.lt _ _ (r.own.wr _ _ _ h)
  have at_new:∀{n:Nat} {x:HObj},(σ.heap ++ [HObj.iter i])[n]? = some x→σ.heap[n]? = some x∧n < σ.heap.length∨n=σ.heap.length∧x = .iter i:=by
    intro n x hn
    by_cases e:n < σ.heap.length
    · rw [List.getElem?_append_left e] at hn; exact .inl ⟨hn,e⟩
    · have e':n=σ.heap.length:=by
        have:=(List.getElem?_eq_some_iff.1 hn).1
        simp at this; omega
      subst e'
      rw [List.getElem?_append_right (Nat.le_refl _)] at hn
      simp at hn
      exact .inr ⟨rfl,hn.symm⟩
  have s':SS ⟨g.sb,g.hb ++ [w.heap.size],fun b o=>g.wr b o∨b=w.heap.size∧o=0⟩ (w.alloc q) ow { σ with heap:=σ.heap ++ [.iter i] }:={
    slen:=r.ss.slen
    hlen:=by simp [r.ss.hlen]
    nodup:=by
      show (g.sb ++ (g.hb ++ [w.heap.size])).Nodup
      rw [←List.append_assoc]
      refine List.nodup_append.2 ⟨r.ss.nodup,by simp,fun a ha b hb => ?_⟩
      rw [List.mem_singleton.1 hb]
      exact hlt ((List.mem_append.1 ha).imp id id)
    lt:=fun b o h=>by
      rcases h with h | h
      · exact t.lt (r.ss.lt _ _ h)
      · rw [h.1]; show w.heap.size < (w.heap.push _).size; simp
    stk:=fun n c hn=>by
      obtain ⟨h0,b,xs,E,fz,k1,k2⟩:=r.ss.stk n c hn
      exact ⟨h0,b,xs,E,fz,k1,k2.still t (fun i b x h=>h) fun o h => .inl h⟩
    heap:=fun n c hn=>by
      rcases at_new hn with ⟨hn,_⟩ | ⟨_,e⟩
      · obtain ⟨h0,b,xs,E,fz,k1,k2⟩:=r.ss.heap n c hn
        exact ⟨h0,b,xs,E,fz,t.hb _ _ k1,k2.still t (fun i b x h=>h) fun o h => .inl h⟩
      · cases e
    maps:=fun n es c hn=>by
      rcases at_new hn with ⟨hn,_⟩ | ⟨_,e⟩
      · obtain ⟨b,xs,k1,k2⟩:=r.ss.maps n es c hn
        exact ⟨b,xs,t.hb _ _ k1,k2.still t fun o h => .inl h⟩
      · cases e
    loops:=fun n l' hn=>by
      rcases at_new hn with ⟨hn,_⟩ | ⟨_,e⟩
      · obtain ⟨b,k,k1,k2⟩:=r.ss.loops n l' hn
        exact ⟨b,k,t.hb _ _ k1,k2.still t fun o h => .inl h⟩
      · cases e
    iters:=fun n l' hn=>by
      rcases at_new hn with ⟨hn,_⟩ | ⟨rfl,e⟩
      · obtain ⟨b,k,k1,k2⟩:=r.ss.iters n l' hn
        exact ⟨b,k,t.hb _ _ k1,k2.still t fun o h => .inl h⟩
      · injection e with e; subst e
        exact ⟨w.heap.size,m,by simp [←r.ss.hlen],{ obj:=by rw [hnew,hq],nil:=hm0,map:=fun h hh=>let ⟨mb,k1,k2⟩:=hm1 h hh; ⟨mb,k1,t.hb _ _ k2⟩,wr := .inr ⟨rfl,rfl⟩ }⟩
    dead:=fun n hn=>by
      rcases at_new hn with ⟨hn,_⟩ | ⟨_,e⟩
      · obtain ⟨b,k1,k2⟩:=r.ss.dead n hn
        exact ⟨b,t.hb _ _ k1,t.lt k2⟩
      · cases e }
  have o':OW ⟨g.sb,g.hb ++ [w.heap.size],fun b o=>g.wr b o∨b=w.heap.size∧o=0⟩ ow:=⟨fun p b o h => .inl (r.own.wr _ _ _ h),fun p b o h hb=>(hib b hb).elim (r.own.box _ _ _ h) fun e=>by have:=hown _ _ _ h; omega,r.own.one⟩
  refine ⟨_,⟨s',o',r.sf.later t (fun _ _ h=>h.elim) (fun _ _ _ _ h=>h) fun _ _ _ h=>h⟩,⟨t.weaken fun _ _ h=>h.elim,fun b o hm => ?_,fun _ _ h => .inr (.inl h),fun b hb=>(List.mem_append.1 hb).imp id fun h=>Nat.le_of_eq ((List.mem_singleton.1 h).symm)⟩,by simp [←r.ss.hlen]⟩
  rcases hm with ⟨hb,hw⟩ | hm
  · rcases hib b hb with hb | hb
    · rcases hw with hw | hw
      · exact .inl (.inl ⟨hb,hw⟩)
      · exact .inr (Nat.le_of_eq hw.1.symm)
    · exact .inr (Nat.le_of_eq hb.symm)
  · exact .inl (.inr hm)
theorem Rel.setIter (r : Rel g w ow fr tm σ) {n b : Nat} {i i' : IterA} {m : Option Nat} (hn : σ.heap[n]? = some (.iter i)) (hb : g.hb[n]? = some b) (hi : IterOK g w b i m) (hm : i'.map = i.map) :
    Rel g (w.putObj b (.mapIter m i'.since i'.seen.toArray i'.stepped)) ow fr tm (AM.setHeap σ n (.iter i'))∧Way g w ow g (w.putObj b (.mapIter m i'.since i'.seen.toArray i'.stepped)) ow:=by
  refine r.setObj (ho := .iter i') (List.getElem?_eq_some_iff.1 hn).1 hb hi.obj (noCells_iter _ _ _ _) (noCells_iter _ _ _ _) hi.wr (fun _ h=>by cases h) (fun _ _ h=>by cases h) (fun _ h=>by cases h) fun i'' e=>⟨m,?_⟩
  injection e with e; subst e
  have hbl:=(Array.getElem?_eq_some_iff.1 hi.obj).1
  exact { obj:=World.putObj_heap_same hbl,nil:=fun h=>hi.nil (hm▸h),map:=fun h hh=>hi.map h (hm▸hh),wr:=hi.wr }
theorem run_next_any (w : World) (ty : TypeId) (r bm since c0 : Nat) (seen : Array Nat) (es : Array MapEntry) (clock : Nat)
    (hr:w.heap[r]? = some (.mapIter (some bm) since seen c0)) (hb:w.heap[bm]? = some (.map es clock)) (ht:(!seen.isEmpty && !es.isEmpty && es.all (fun x=>decide (x.born≥c0)))=false) :
    ∃w1:World,(w1=w∨w1={ w with drawn:=w.drawn + 1 }) ∧
    (((∀e∈es.toList,seen.contains e.born=true∨since≤e.born)∧(Instr.next (.pointer (some ⟨r,0,none⟩)) false ty).run P w = .ok (.tuple #[.bool false]) w1) ∨
    ∃e∈es.toList,seen.contains e.born=false∧(Instr.next (.pointer (some ⟨r,0,none⟩)) false ty).run P w = .ok (.tuple #[.bool true,e.key,e.val]) (w1.putObj r (.mapIter (some bm) since (seen.push e.born) clock))):=by
  simp only [Instr.next,getObj,Sem.run_bind,Sem.run,hr,hb,Result.andThen,ht,Bool.false_eq_true,if_false]
  generalize hL:Array.filter (fun e => !seen.contains e.born) es=L
  have hmem:∀x,x∈L↔x∈es.toList∧seen.contains x.born=false:=fun x=>by rw [←hL]; simp
  generalize hc:((if (Array.filter (fun x=>decide (x.born < since)) L).isEmpty=true then #[none] else #[]) ++ Array.map some (Array.filter (fun x=>decide (x.born < since)) L ++ Array.filter (fun x=>decide (x.born≥since)) L):Array (Option MapEntry))=cands
  have hne:0 < cands.size:=by
    rw [←hc]
    by_cases h0:(Array.filter (fun x=>decide (x.born < since)) L).isEmpty=true
    · rw [if_pos h0]; simp; omega
    · rw [if_neg h0]
      have:(Array.filter (fun x=>decide (x.born < since)) L).size≠0:=fun h=>h0 (by simp [Array.isEmpty,h])
      simp only [Array.size_append,Array.size_map]; omega
  have hnone:none∈cands→∀e∈es.toList,seen.contains e.born=true∨since≤e.born:=by
    intro hm e he
    rw [←hc] at hm
    by_cases h0:(Array.filter (fun x=>decide (x.born < since)) L).isEmpty=true
    · by_cases hs:seen.contains e.born=true
      · exact .inl hs
      · right
        have heL:e∈L:=(hmem e).2 ⟨he,by simpa using hs⟩
        have h1:Array.filter (fun x=>decide (x.born < since)) L = #[]:=by simpa [Array.isEmpty] using h0
        rw [Array.filter_eq_empty_iff] at h1
        have:=h1 e heL
        simpa using this
    · rw [if_neg h0] at hm; simp at hm
  have hsome:∀e,some e∈cands→e∈L:=by
    intro e hm
    rw [←hc] at hm
    simp only [Array.mem_append,Array.mem_map,Array.mem_filter,Option.some.injEq] at hm
    rcases hm with hm | ⟨x,hx,rfl⟩
    · split at hm <;> simp at hm
    · rcases hx with hx | hx <;> exact hx.1
  have hch:∃(j:Nat) (w1:World),j < cands.size∧(w1=w∨w1={ w with drawn:=w.drawn + 1 })∧(choose (Question.mapNext cands.size)).run P w = .ok j w1:=by
    by_cases hf:cands.size≤1
    · exact ⟨0,w,by omega,Or.inl rfl,by simp [choose,Sem.run,Question.forced,hf]⟩
    · exact ⟨_,{ w with drawn:=w.drawn + 1 },Nat.mod_lt _ (by omega),Or.inr rfl,by
        simp only [choose,Sem.run,Question.forced,decide_eq_true_eq,hf,if_false,Question.cut]
        rfl⟩
  obtain ⟨j,w1,hj,hal,hrun⟩:=hch
  refine ⟨w1,hal,?_⟩
  have hr1:w1.heap[r]? = some (.mapIter (some bm) since seen c0):=by rcases hal with rfl | rfl <;> exact hr
  simp only [hrun,Array.getElem?_eq_getElem hj]
  cases hx:cands[j] with
  | none =>
    left
    exact ⟨hnone (hx▸Array.getElem_mem hj),rfl⟩
  | some e =>
    right
    have heL:=(hmem e).1 (hsome e (hx▸Array.getElem_mem hj))
    refine ⟨e,heL.1,heL.2,?_⟩
    simp [setObj,Sem.run,hr1,World.putObj]
theorem EntriesOK.find {p:Nat→Bool}:∀{es:List Entry} {xs:List MapEntry} {e:Entry},EntriesOK g w es xs→es.find? (fun e=>p e.born)=some e→∃x,xs.find? (fun x=>p x.born)=some x∧EntryOK g w e x
  | [],xs,e,_,h=>by simp at h
  | y :: es,[],e,h,_=>by have:=h.1; simp at this
  | y :: es,x :: xs,e,h,hf=>by
    obtain ⟨h1,h2⟩:=h.tail
    simp only [List.find?_cons] at hf ⊢
    rw [h1.born]
    cases hp:p y.born with
    | true=>rw [hp] at hf; simp only [Option.some.injEq] at hf; subst hf; exact ⟨x,rfl,h1⟩
    | false=>rw [hp] at hf; exact EntriesOK.find h2 hf
theorem EntriesOK.mem {es:List Entry} {xs:List MapEntry} (h:EntriesOK g w es xs) {x:MapEntry} (hx:x∈xs):∃e∈es,EntryOK g w e x:=by
  obtain ⟨i,hi⟩:=List.getElem?_of_mem hx
  have hl:i < es.length:=by rw [←h.1]; exact (List.getElem?_eq_some_iff.1 hi).1
  obtain ⟨x',h1,h2⟩:=h.2 i _ (List.getElem?_eq_getElem hl)
  rw [hi] at h1; injection h1 with h1; subst h1
  exact ⟨_,List.getElem_mem hl,h2⟩
theorem EntriesOK.mem' {es:List Entry} {xs:List MapEntry} (h:EntriesOK g w es xs) {e:Entry} (he:e∈es):∃x∈xs,EntryOK g w e x:=by
  obtain ⟨i,hi⟩:=List.getElem?_of_mem he
  obtain ⟨x,h1,h2⟩:=h.2 i _ hi
  exact ⟨x,List.mem_of_getElem? h1,h2⟩
theorem iterOf_some {x:AV} {n:Nat} {i:IterA} (h:iterOf σ x=some (n,i)):x = .ptr (.heap n) 0∧σ.heap[n]? = some (.iter i):=by
  unfold iterOf at h
  split at h
  · split at h
    · simp only [Option.some.injEq,Prod.mk.injEq] at h
      obtain ⟨rfl,rfl⟩:=h
      exact ⟨rfl,by assumption⟩
    · cases h
  · cases h
theorem iter_at (r:Rel g w ow fr tm σ) {n:Nat} {i:IterA} {v:Value} (hv:V g w (.ptr (.heap n) 0) v) (h:σ.heap[n]? = some (.iter i)):∃b m,v = .pointer (some ⟨b,0,none⟩)∧g.hb[n]? = some b∧IterOK g w b i m:=by
  obtain ⟨b,m,h1,h2⟩:=r.ss.iters n i h
  cases hv with
  | @ptr _ _ b' _ _ h3 _ =>
    have:b'=b:=Option.some.inj ((show g.hb[n]? = some b' from h3).symm.trans h1)
    subst this
    exact ⟨b',m,rfl,h1,h2⟩
end
end Go.AM
namespace Go.AM
open Go
def ModelW (P : Program) : CallW := fun t args σ K => ∀ (g : G) (w : World) (ow : Own) (xs : Array Value), Rel g w ow args xs σ → ∀ s, t.sem g xs = some s →
    Runs P s w fun rv w'=>∃v σ',K v σ'∧∃g' ow',Ret g w ow v σ' rv g' w' ow'
theorem Runs.mono {P:Program} {s:Sem Next} {w:World} {R R':Value→World→Prop} (h:Runs P s w R) (hR:∀v w',R v w'→R' v w'):Runs P s w R':=by
  rcases h with ⟨f,args,e1,e2⟩ | ⟨v,w',e1,e2⟩ | ⟨l,fn,tmps,azz,bd,e1,e2⟩
  · refine .inl ⟨f,args,e1,Calls.mono e2 fun e w' he => ?_⟩
    cases e with
    | returned v=>exact hR _ _ he
    | _=>exact he.elim
  · exact .inr (.inl ⟨v,w',e1,hR _ _ e2⟩)
  · refine .inr (.inr ⟨l,fn,tmps,azz,bd,e1,RoundIn.mono e2 fun e w' he => ?_⟩)
    cases e with
    | returned v=>exact hR _ _ he
    | _=>exact he.elim
theorem ModelW.le (P:Program):LeC (ModelW P) (ModelW P):=fun t args σ K K' hK h g w ow xs r s hs =>
  Runs.mono (h g w ow xs r s hs) fun rv w' ⟨v,σ',k,x⟩=>⟨v,σ',hK _ _ k,x⟩
theorem noC_sound (P:Program):Sound P noC:=fun t args σ v σ' h=>by simp [noC] at h
section
variable {P:Program} {cfg:Cfg} {tr:Trees} {f:FuncId} {g g' g0 g1 g2:G} {w w' w0 w1:World} {ow ow' ow0 ow1:Own} {σ σ':St} {fr fr':Fr} {tm:Array Value} {a:Act} {dst:Option Tmp} {next:Act→World→Prop} {Q:Exit→Act→World→Prop} {ops:Array Oper}
theorem callW_wp {rd : Option Nat} (r : Rel g w ow fr a.tmps σ) {c : Call} {ty : TypeId} {pos : String} {after : Array Edge} {guard : Option (Nat × Bool)} {gf : Operand} {h : FuncId} {first captured : List AV} {K : AV → St → Prop}
    (hcal:c.callee = .value gf) (hg:AM.seen fr gf = .fn (.func h) first captured) (he:ModelW P (.fn h) (first ++ (takenAll fr c.args.toList).1 ++ captured) σ K)
    (hn:∀v σ',K v σ'→∀g' w' ow' val,Out g w ow dst v (takenAll fr c.args.toList).2 σ' a.tmps g' w' ow' val→next (a.put dst val) w') :
    Oper.wpIn (FW rd) 0 P { dst,op := .call c,type:=ty,pos,after,guard } a w next Q:=by
  have hV:=r.sf.seen gf
  rw [hg] at hV
  generalize hgv:a.eval gf=gv at hV
  cases hV with
  | @fn _ _ _ xs ys _ _ h1 h2 _ =>
    obtain ⟨ow1,O,r1,hl,hv,f,hd,k1,k2⟩:=takenAll_rel c.args.toList r
    have rc:=callee_rel (vs:=(takenAll fr c.args.toList).1) (vv:=c.args.toList.map a.eval) r1 h1 h2 (by rw [List.length_map,hl]) (fun i x hi=>by
      obtain ⟨y,k3,k4⟩:=hv i x hi
      exact ⟨a.eval y,by rw [List.getElem?_map,k3]; rfl,k4⟩) f hd
    have hrun:=he g w _ _ rc _ rfl
    refine runs_wp ?_ hrun fun rv w' hR => ?_
    · obtain ⟨cal,args,ats⟩:=c
      dsimp only at hcal; subst hcal
      have e:(xs.toList ++ args.toList.map a.eval ++ ys.toList).toArray=xs ++ args.map a.eval ++ ys:=by
        apply Array.ext'; simp
      rw [e]
      simp only [execOp,resolve]
      rw [hgv]; rfl
    · obtain ⟨v,σ',hK,g',ow',hret⟩:=hR
      obtain ⟨ow2,ho⟩:=ret_out (dst:=dst) r1 f k1 k2 hret
      exact hn _ _ hK _ _ _ _ ho
theorem yieldW_wp {rd : Option Nat} (r : Rel g w ow fr a.tmps σ) {c : Call} {ty : TypeId} {pos : String} {after : Array Edge} {guard : Option (Nat × Bool)} {gf : Operand} {h : Nat} {K : AV → St → Prop}
    (hcal:c.callee = .value gf) (hg:AM.seen fr gf = .yield h) (he:ModelW P (.yield h) (takenAll fr c.args.toList).1 σ K)
    (hn:∀v σ',K v σ'→∀g' w' ow' val,Out g w ow dst v (takenAll fr c.args.toList).2 σ' a.tmps g' w' ow' val→next (a.put dst val) w') :
    Oper.wpIn (FW rd) 0 P { dst,op := .call c,type:=ty,pos,after,guard } a w next Q:=by
  have hV:=r.sf.seen gf
  rw [hg] at hV
  generalize hgv:a.eval gf=gv at hV
  cases hV with
  | @yield _ b _ _ hb _ =>
    obtain ⟨ow1,O,r1,hl,hv,f,hd,k1,k2⟩:=takenAll_rel c.args.toList r
    have rc:=callee_rel (first:=[]) (caps:=[]) (fv:=[]) (cv:=[]) (vs:=(takenAll fr c.args.toList).1) (vv:=c.args.toList.map a.eval) r1 .nil .nil (by rw [List.length_map,hl]) (fun i x hi=>by
      obtain ⟨y,k3,k4⟩:=hv i x hi
      exact ⟨a.eval y,by rw [List.getElem?_map,k3]; rfl,k4⟩) f hd
    rw [List.nil_append,List.append_nil] at rc
    have hrun:=he g w _ _ rc _ (by simp only [Tgt.sem,hb]; rfl)
    refine runs_wp ?_ hrun fun rv w' hR => ?_
    · obtain ⟨cal,args,ats⟩:=c
      dsimp only at hcal; subst hcal
      have e:([] ++ args.toList.map a.eval ++ []).toArray=args.map a.eval:=by
        apply Array.ext'; simp
      rw [e]
      simp only [execOp,resolve]
      rw [hgv]
      show invoke (.fn (.yield b) #[]) (#[] ++ args.map a.eval)=_
      rw [Array.empty_append]
      rfl
    · obtain ⟨v,σ',hK,g',ow',hret⟩:=hR
      obtain ⟨ow2,ho⟩:=ret_out (dst:=dst) r1 f k1 k2 hret
      exact hn _ _ hK _ _ _ _ ho
theorem callOf_some {op:Op} {c:Call} {gf:Operand} (h:callOf op=some (c,gf)):op = .call c∧c.callee = .value gf:=by
  unfold callOf at h
  split at h
  · split at h
    · rename_i hc
      simp only [Option.some.injEq,Prod.mk.injEq] at h
      obtain ⟨rfl,rfl⟩:=h
      exact ⟨rfl,hc⟩
    · cases h
  · cases h
theorem opW_wp {rd : Option Nat} {o : Oper} {K : AV → Fr → St → Prop} (r : Rel g w ow fr a.tmps σ) (h : opW (ModelW P) P cfg f o fr σ K)
    (hn:∀v fr' σ',K v fr' σ'→∀g' w' ow' val,Out g w ow o.dst v fr' σ' a.tmps g' w' ow' val→next (a.put o.dst val) w'):o.wpIn (FW rd) 0 P a w next Q:=by
  obtain ⟨dst,op,ty,pos,after,guard⟩:=o
  have S:=r.sf.seen
  unfold opW at h
  dsimp only at h hn
  split at h
  · -- range
    rename_i t x
    have hx:=S x
    split at h
    · rename_i kT eT hd hu hs
      rw [hs] at hx
      split at h
      case h_2=>exact h.elim
      rename_i es c hm
      generalize hxv:a.eval x=xv at hx
      cases hx with
      | @map _ b _ _ hb _ =>
        obtain ⟨h1,b',xs,h2,h3⟩:=r.ss.map hm
        have:b'=b:=Option.some.inj (h2.symm.trans hb)
        subst this
        obtain ⟨g1,r1,W1,h4⟩:=r.newIter (i:=⟨some hd,c,[],c⟩) (m:=some b') (fun e=>by cases e) (fun k hk=>⟨b',rfl,by injection hk with hk; subst hk; exact hb⟩)
        obtain ⟨ow2,ho⟩:=Out.ofWay (dst:=dst) r1 W1 (.ptr (r := .heap σ.heap.length) (off:=0) h4 .nil)
        refine wp_value ?_ ⟨ow2,ho⟩ (hn _ _ _ h)
        show (do pure (Next.value (←Instr.range t (a.eval x))):Sem Next).run P w=_
        rw [hxv]
        exact run_v (run_range_map w t kT eT b' xs c hu h3.obj)
    · rename_i kT eT hu hs
      rw [hs] at hx
      have hxv:=hx.sc_inv
      obtain ⟨g1,r1,W1,h4⟩:=r.newIter (i:=⟨none,0,[],0⟩) (m:=none) (fun _=>rfl) (fun k hk=>by cases hk)
      obtain ⟨ow2,ho⟩:=Out.ofWay (dst:=dst) r1 W1 (.ptr (r := .heap σ.heap.length) (off:=0) h4 .nil)
      refine wp_value ?_ ⟨ow2,ho⟩ (hn _ _ _ h)
      show (do pure (Next.value (←Instr.range t (a.eval x))):Sem Next).run P w=_
      rw [hxv]
      exact run_v (run_range_nilMap w t kT eT hu)
    · exact h.elim
  · -- next
    rename_i x
    have hx:=S x
    split at h
    case h_2=>exact h.elim
    rename_i n i hit
    obtain ⟨e1,hni⟩:=iterOf_some hit
    rw [e1] at hx
    obtain ⟨b,m,hxv,hb,hI⟩:=iter_at r hx hni
    split at h
    · rename_i hmap
      have hm:=hI.nil hmap
      subst hm
      obtain ⟨ow2,ho⟩:=Out.pure (dst:=dst) r (show V g w (.tup [.bool false]) (.tuple #[.bool false]) from .tup (.sc (.bool false) .nil) .nil)
      refine wp_value (w':=w) ?_ ⟨ow2,ho⟩ (hn _ _ _ h)
      show (do pure (Next.value (←Instr.next (a.eval x) false ty)):Sem Next).run P w=_
      rw [hxv]
      refine run_v ?_
      simp only [Instr.next,getObj,Sem.run_bind,Sem.run,hI.obj,Result.andThen]
      rfl
    · rename_i hd hmap
      split at h
      case h_2=>exact h.elim
      rename_i es c hm
      obtain ⟨hok,hover,hstep⟩:=h
      obtain ⟨h1,bm,xs,h2,h3⟩:=r.ss.map hm
      obtain ⟨mb,k1,k2⟩:=hI.map hd hmap
      have:mb=bm:=Option.some.inj (k2.symm.trans h2)
      subst this
      subst k1
      have hE:=h3.entries
      have ht:(!i.seen.toArray.isEmpty && !xs.isEmpty && xs.all (fun x=>decide (x.born≥i.stepped)))=false:=by
        rcases hok with hs | hs | ⟨e,he,hlt⟩
        · rw [hs]; rfl
        · have:xs = #[]:=by have:=h3.size; rw [hs] at this; exact Array.eq_empty_of_size_eq_zero this
          subst this; simp
        · obtain ⟨x,hx1,hx2⟩:=hE.mem' he
          have:xs.all (fun x=>decide (x.born≥i.stepped))=false:=by
            rw [Bool.eq_false_iff]
            intro hall
            rw [Array.all_eq_true_iff_forall_mem] at hall
            have:=hall x (Array.mem_toList_iff.1 hx1)
            rw [hx2.born] at this
            simp at this; omega
          simp [this]
      obtain ⟨w1,hal,hres⟩:=run_next_any (P:=P) w ty b mb i.since i.stepped i.seen.toArray xs c hI.obj h3.obj ht
      have hheap:w1.heap=w.heap:=by rcases hal with rfl | rfl <;> rfl
      have henv:SameEnv w w1:=by rcases hal with rfl | rfl <;> exact .r
      have r1:Rel g w1 ow fr a.tmps σ:=r.heap hheap henv
      have W1:Way g w ow g w1 ow:=Way.heap hheap henv
      rcases hres with ⟨hall,hrun⟩ | ⟨x0,hx0,hs0,hrun⟩
      · obtain ⟨ow2,ho⟩:=Out.ofWay (dst:=dst) r1 W1 (show V g w1 (.tup [.bool false]) (.tuple #[.bool false]) from .tup (.sc (.bool false) .nil) .nil)
        refine wp_value ?_ ⟨ow2,ho⟩ (hn _ _ _ (hover fun e he => ?_))
        · show (do pure (Next.value (←Instr.next (a.eval x) false ty)):Sem Next).run P w=_
          rw [hxv]; exact run_v hrun
        · obtain ⟨y,hy1,hy2⟩:=hE.mem' he
          rcases hall y hy1 with hc | hc
          · left; rw [hy2.born] at hc; simpa using hc
          · right; rw [hy2.born] at hc; exact hc
      · obtain ⟨e,he,hEO⟩:=hE.mem hx0
        have hns:e.born∉i.seen:=by rw [hEO.born] at hs0; simpa using hs0
        have hI1:IterOK g w1 b i (some mb):=⟨by rw [hheap]; exact hI.obj,hI.nil,hI.map,hI.wr⟩
        obtain ⟨r2,W2⟩:=r1.setIter (i':={ i with seen:=i.seen ++ [e.born],stepped:=c }) hni hb hI1 rfl
        have hobj:Obj.mapIter (some mb) i.since (i.seen.toArray.push x0.born) c=Obj.mapIter (some mb) i.since (i.seen ++ [e.born]).toArray c:=by
          rw [hEO.born]; simp
        have hE1:EntryOK g w1 e x0:=hEO.later ⟨fun _ _ h=>h,fun _ _ h=>h,fun b' o' v' hv' hw'=>⟨by unfold World.cell? at *; rw [hheap]; exact hv',hw'⟩⟩
        have t2:Tr (fun b' i'=>b'=b∧i'=0) g w1 g (w1.putObj b (.mapIter (some mb) i.since (i.seen ++ [e.born]).toArray c)):=Tr.putObj hI1.obj (noCells_iter _ _ _ _) (noCells_iter _ _ _ _)
        have L2:=t2.later fun b' i' ⟨k3,k4⟩=>by rw [k3,k4]; exact hI.wr
        have hV:V g (w1.putObj b (.mapIter (some mb) i.since (i.seen ++ [e.born]).toArray c)) (.tup [.bool true,e.key,e.val]) (.tuple #[.bool true,x0.key,x0.val]) :=
          .tup (.sc (.bool true) (VL.cons_of (hE1.key.later L2) (VL.cons_of (hE1.val.later L2) .nil))) .nil
        obtain ⟨ow2,ho⟩:=Out.ofWay (dst:=dst) r2 (W1.trans W2 r.ss.lt) hV
        refine wp_value ?_ ⟨ow2,ho⟩ (hn _ _ _ (hstep e he hns))
        show (do pure (Next.value (←Instr.next (a.eval x) false ty)):Sem Next).run P w=_
        rw [hxv,←hobj]; exact run_v hrun
  · -- entry
    rename_i x
    have hx:=S x
    split at h
    case h_2=>exact h.elim
    rename_i n i hit
    obtain ⟨e1,hni⟩:=iterOf_some hit
    rw [e1] at hx
    obtain ⟨b,m,hxv,hb,hI⟩:=iter_at r hx hni
    split at h
    case h_2=>exact h.elim
    rename_i hd st hmap hlast
    split at h
    case h_2=>exact h.elim
    rename_i es c hm
    obtain ⟨hc,h⟩:=h
    split at h
    case h_2=>exact h.elim
    rename_i e hf
    obtain ⟨h1,bm,xs,h2,h3⟩:=r.ss.map hm
    obtain ⟨mb,k1,k2⟩:=hI.map hd hmap
    have:mb=bm:=Option.some.inj (k2.symm.trans h2)
    subst this
    subst k1
    obtain ⟨y,hy1,hy2⟩:=EntriesOK.find (p:=fun n=>n == st) h3.entries hf
    obtain ⟨ow2,ho⟩:=Out.pure (dst:=dst) r (show V g w (.tup [e.key,e.val]) (.tuple #[y.key,y.val]) from .tup (VL.cons_of hy2.key (VL.cons_of hy2.val .nil)) .nil)
    refine wp_value (w':=w) ?_ ⟨ow2,ho⟩ (hn _ _ _ h)
    show (do pure (Next.value (←Instr.entry (a.eval x))):Sem Next).run P w=_
    rw [hxv]
    refine run_v ?_
    have hback:i.seen.toArray.back? = some st:=by simpa using hlast
    have hfx:xs.find? (fun x=>x.born == st)=some y:=by rw [←Array.find?_toList]; exact hy1
    simp only [Instr.entry,getObj,Sem.run_bind,Sem.run,hI.obj,h3.obj,Result.andThen,hback,hc,bne_self_eq_false,Bool.false_eq_true,if_false,hfx]
    rfl
  · -- all others
    rename_i hno1 hno2 hno3
    split at h
    · rename_i c gf hcall
      obtain ⟨rfl,hcal⟩:=callOf_some hcall
      split at h
      · rename_i hg; exact callW_wp r hcal hg h fun v σ' k=>hn _ _ _ k
      · rename_i hg; exact yieldW_wp r hcal hg h fun v σ' k=>hn _ _ _ k
      · exact h.elim
    · split at h
      · rename_i v fr' σ' he
        exact evOp_wp (noC_sound P) r he (hn _ _ _ h)
      · exact h.elim
theorem stepW_wp {rd : Option Nat} {i : Nat} {K : Fr → St → Prop} {KK : Act → World → Prop} (h : stepW (ModelW P) P cfg f ops i fr σ K) (r : Rel g w ow fr a.tmps σ)
    (hK:∀fr' σ',K fr' σ'→∀a' w',Post g w ow a fr' σ' a' w'→KK a' w'):wpOpIn (FW rd) 0 P ops Q i KK a w:=by
  unfold stepW at h
  unfold wpOpIn
  cases hi:ops[i]? with
  | none=>rw [hi] at h; exact h.elim
  | some o =>
    rw [hi] at h
    dsimp only at h ⊢
    cases hg:guardA ops fr o with
    | none=>rw [hg] at h; exact h.elim
    | some b =>
      rw [hg] at h
      rw [guardA_wanted r.sf hg]
      cases b with
      | true =>
        dsimp only at h
        simp only [if_true]
        obtain ⟨g1,ow1,r1,W1⟩:=settle_way (settled o.op) r
        refine opW_wp r1 h fun v fr' σ' k g' w' ow' val ho=>hK _ _ k _ _ ?_
        refine ⟨⟨g',ow',?_,W1.trans ho.way r.ss.lt,by rw [act_defers]; exact Marks.none _ _ _ _⟩⟩
        rw [act_put]; exact ho.rel
      | false =>
        dsimp only at h
        simp only [Bool.false_eq_true,if_false]
        obtain ⟨ow',r',k1,_,_⟩:=r.put (dst:=o.dst) (PV.of (o:=Nobody) (undef_tup (g:=g) (w:=w))) (Free.nobody _ _)
        refine ⟨fun f _=>FW_fn rd f,hK _ _ h _ _ ⟨⟨g,ow',by rw [act_put]; exact r',Way.only fun p b o h=>(k1 p b o h).resolve_right id,by rw [act_defers]; exact Marks.none _ _ _ _⟩⟩⟩
theorem maybe_run {t : TypeId} {x y : AV} {xv yv : Value} {xo yo : Operand} {op : BinOp} (ho : isEq op = true) (ht : typeKind P t = some 1) (hm : maybeNil x y = true) (hx : V g w x xv) (hy : V g w y yv) :
    ∃b:Bool,(do eqGuard op t xo yo xv yv; Go.binOp op t xv yv:Sem Value).run P w = .ok (.bool b) w:=by
  have hu:∃e,P.underlying t=some (.slice e):=by
    unfold typeKind at ht
    split at ht <;> simp at ht
    exact ⟨_,by assumption⟩
  obtain ⟨e,hu⟩:=hu
  have fin:∀{b:Bool} {xv yv:Value},(∀c,xv≠.agg c)→xv≠.nilIface→(∀d,(Op.equalIn (d + 1) t xv yv).run P w = .ok b w)→Go.binOp .eql t xv yv=(do pure (.bool (←Op.equal t xv yv)))→Go.binOp .neq t xv yv=(do pure (.bool (!(←Op.equal t xv yv))))→∃b:Bool,(do eqGuard op t xo yo xv yv; Go.binOp op t xv yv:Sem Value).run P w = .ok (.bool b) w:=by
    intro b xv yv h1 h2 h3 e1 e2
    have h4:(Op.equal t xv yv).run P w = .ok b w:=equal_of h3
    have hq:∀op,(eqGuard op t xo yo xv yv).run P w = .ok () w:=fun op=>eqGuard_quiet h1 h2 op t xo yo
    cases op <;> simp [isEq] at ho
    · exact ⟨b,by rw [Sem.run_bind,hq]; simp only [Result.andThen_ok]; rw [e1]; simp [h4]⟩
    · exact ⟨!b,by rw [Sem.run_bind,hq]; simp only [Result.andThen_ok]; rw [e2]; simp [h4]⟩
  unfold maybeNil at hm
  split at hm
  · have:=hy.sc_inv; subst this
    rcases V.list_inv hx with ⟨a,c,rfl,_⟩ | ⟨_,_,rfl⟩
    · exact fin (b:=false) (by simp) (by simp) (fun d=>by simp only [Op.equalIn,Sem.run_bind,run_underlying hu,Result.andThen_ok]; rfl) rfl rfl
    · exact fin (b:=true) (by simp) (by simp) (fun d=>by simp only [Op.equalIn,Sem.run_bind,run_underlying hu,Result.andThen_ok]; rfl) rfl rfl
  · have:=hx.sc_inv; subst this
    rcases V.list_inv hy with ⟨a,c,rfl,_⟩ | ⟨_,_,rfl⟩
    · exact fin (b:=false) (by simp [Sc.toV]) (by simp [Sc.toV]) (fun d=>by simp only [Op.equalIn,Sem.run_bind,run_underlying hu,Result.andThen_ok]; rfl) rfl rfl
    · exact fin (b:=true) (by simp [Sc.toV]) (by simp [Sc.toV]) (fun d=>by simp only [Op.equalIn,Sem.run_bind,run_underlying hu,Result.andThen_ok]; rfl) rfl rfl
  · cases hm
theorem maybeW_wp {rd : Option Nat} {i : Nat} {KK : Act → World → Prop} (h : maybeW P ops i fr = true) (r : Rel g w ow fr a.tmps σ)
    (hK:∀b,∀a' w',Post g w ow a (putA (dstOf ops i) (.bool b) fr) σ a' w'→KK a' w'):wpOpIn (FW rd) 0 P ops Q i KK a w:=by
  unfold maybeW at h
  unfold wpOpIn
  cases hi:ops[i]? with
  | none=>rw [hi] at h; cases h
  | some o =>
    rw [hi] at h
    dsimp only at h ⊢
    have hdst:dstOf ops i=o.dst:=by simp [dstOf,hi]
    rw [hdst] at hK
    rw [Bool.and_eq_true] at h
    obtain ⟨hg,hm⟩:=h
    have hg:guardA ops fr o=some true:=by
      split at hg
      · assumption
      · cases hg
    rw [guardA_wanted r.sf hg]
    simp only [if_true]
    obtain ⟨dst,op,ty,pos,after,guard⟩:=o
    dsimp only at hm hK
    obtain ⟨op',t,x,y,yt,rfl⟩:∃op' t x y yt,op = .binOp op' t x y yt:=by
      cases op <;> first | exact ⟨_,_,_,_,_,rfl⟩ | (simp only [maybeOf] at hm; cases hm; done)
    simp only [maybeOf,Bool.and_eq_true,beq_iff_eq] at hm
    obtain ⟨⟨ho,ht⟩,hm⟩:=hm
    obtain ⟨b,hb⟩:=maybe_run (P:=P) (xo:=x) (yo:=y) ho ht hm (r.sf.seen x) (r.sf.seen y)
    obtain ⟨ow2,hout⟩:=Out.pure (dst:=dst) r (show V g w (.bool b) (.bool b) from .sc (.bool b) .nil)
    refine wp_value (w':=w) ?_ ⟨ow2,hout⟩ ?_
    · exact run_v hb
    · intro g' w' ow' val ho
      refine hK b _ _ ⟨⟨g',ow',?_,ho.way,by rw [act_defers]; exact Marks.none _ _ _ _⟩⟩
      rw [act_put]; exact ho.rel
theorem opsW_wp {rd : Option Nat} : ∀ (l : List Nat) {fr : Fr} {σ : St} {g : G} {w : World} {ow : Own} {a : Act} {K : Fr → St → Prop}, opsW (ModelW P) P cfg f ops l fr σ K → Rel g w ow fr a.tmps σ →
    (∀fr' σ',K fr' σ'→∀a' w',Post g w ow a fr' σ' a' w'→Q .normal a' w')→wpOpsIn (FW rd) 0 P ops Q l a w
  | [],fr,σ,g,w,ow,a,K,h,r,hQ=>hQ _ _ h a w (Post.here r rfl)
  | i :: l,fr,σ,g,w,ow,a,K,h,r,hQ=>by
    simp only [opsW] at h
    rw [wpOpsIn_cons]
    rcases h with h | ⟨hm,h⟩
    · refine stepW_wp h r fun fr1 σ1 h1 a1 w1 hp => ?_
      obtain ⟨g1,ow1,r1,W1,hd⟩:=hp.out
      exact opsW_wp l h1 r1 fun fr' σ' k a' w' hp'=>hQ _ _ k a' w' (hp'.after W1 r.ss.lt r1.own hd)
    · refine maybeW_wp hm r fun b a1 w1 hp => ?_
      obtain ⟨g1,ow1,r1,W1,hd⟩:=hp.out
      exact opsW_wp l (h b) r1 fun fr' σ' k a' w' hp'=>hQ _ _ k a' w' (hp'.after W1 r.ss.lt r1.own hd)
end
end Go.AM
namespace Go.AM
open Go
section
variable {P:Program} {cfg:Cfg} {g g':G} {w w':World} {ow ow':Own} {σ σ':St} {fr:Fr} {tm:Array Value}
theorem callsW_grow {f : FuncId} {fn : Func} (hf : P.funcs[f]? = some fn) (hname : fn.name ≠ "runtime.NumGoroutine") (hb : fn.body.isSome = true) {args : List AV} {x : Sc} (h : ModelW P (.fn f) args ⟨[], []⟩ fun v _ => v = .s x) (w : World) {xs : Array Value} (hl : xs.size = args.length)
    (hx:∀(i:Nat) (a:AV),args[i]? = some a→∃v,xs[i]? = some v∧V G.none w a v):Calls P f xs w fun e w'=>e = .returned x.toV∧∃q os,w'=Sort.grow (w.drewN q) os:=by
  have hrun:=h G.none w Own.none xs (rel_none w hl hx) _ rfl
  have hent:(callFunc f xs).run P w = .ok (.enter f xs) w:=by
    have hb':fn.body.isNone=false:=by cases hbb:fn.body <;> simp_all
    simp [callFunc,Sem.run,hf,hname]
    cases hbb:fn.body with
    | none=>simp [hbb] at hb
    | some c=>simp [Sem.run]
  rcases hrun with ⟨f',args',e1,hc⟩ | ⟨rv,w',he,_⟩ | ⟨l,fn',tm',as',bd',he,_⟩
  · rw [hent] at e1
    simp only [Result.ok.injEq,Next.enter.injEq,and_true] at e1
    obtain ⟨rfl,rfl⟩:=e1
    refine Calls.mono hc fun e w' he => ?_
    cases e with
    | returned rv =>
      obtain ⟨v,σ',rfl,g',ow',hr⟩:=he
      obtain ⟨u,h1,h2⟩:=hr.rel.sf.val 0 (.s x) rfl
      simp at h1; subst h1
      have:=(show V g' w' (.s x) rv from h2).sc_inv
      subst this
      obtain ⟨e1,e2,e3,e4⟩:=hr.way.tr.env
      refine ⟨rfl,w'.drawn - w.drawn,w'.heap.extract w.heap.size w'.heap.size,?_⟩
      have hh:w'.heap=w.heap ++ w'.heap.extract w.heap.size w'.heap.size:=by
        have hs:=hr.way.tr.size
        apply Array.ext_getElem?
        intro i
        by_cases hi:i < w.heap.size
        · rw [hr.way.tr.obj i hi fun o hm=>may_none hm,Array.getElem?_append_left hi]
        · rw [Array.getElem?_append_right (by omega),Array.getElem?_extract]
          by_cases hi':i < w'.heap.size
          · rw [if_pos (by omega)]; congr 1; omega
          · rw [if_neg (by omega),Array.getElem?_eq_none (by omega)]
      obtain ⟨h0,t0,d0,o0,u0⟩:=w'
      dsimp only at e1 e2 e3 e4 hh
      subst e1; subst e2; subst e3
      unfold Sort.grow World.drewN
      dsimp only
      rw [←hh,Nat.add_sub_cancel' e4]
    | _=>exact he.elim
  · rw [hent] at he; cases he
  · rw [hent] at he; cases he
theorem Tr.grown (os:Array Obj) (m:Nat):Tr Nought g w g (Sort.grow (Sort.ahead w m) os) where
  size:=by simp [Sort.grow,Sort.ahead]
  obj b hb _:=by
    show (w.heap ++ os)[b]? = _
    rw [Array.getElem?_append_left hb]
  cell b o hb _:=by
    simp only [World.cell?,Sort.grow,Sort.ahead]
    rw [Array.getElem?_append_left hb]
  live b o v h:=by
    have hb:=cell_lt h
    refine ⟨v,?_⟩
    simp only [World.cell?,Sort.grow,Sort.ahead] at h ⊢
    rw [Array.getElem?_append_left hb]; exact h
  froz b o hb:=by
    simp only [World.frozen?,Sort.grow,Sort.ahead]
    rw [Array.getElem?_append_left hb]
  wr _ _ h := .inl h
  sb _ _ h:=h
  hb _ _ h:=h
  env := .r (h4:=Nat.le_add_right _ _)
theorem Rel.grown (r:Rel g w ow fr tm σ) (os:Array Obj) (m:Nat):Rel g (Sort.grow (Sort.ahead w m) os) ow fr tm σ :=
  ⟨r.ss.still (Tr.grown os m) (fun b o h=>Nat.lt_of_lt_of_le (r.ss.lt _ _ h) (Tr.grown (g:=g) os m).size) rfl rfl (fun _ _ _ h=>h) (fun _ _ _ _ h=>h) (fun _ _ _ _ h=>h),r.own,
    r.sf.later (Tr.grown os m) (fun _ _ h=>h.elim) (fun _ _ _ _ h=>h) (fun _ _ _ h=>h)⟩
theorem Way.grown (os:Array Obj) (m:Nat):Way g w ow g (Sort.grow (Sort.ahead w m) os) ow :=
  ⟨(Tr.grown os m).weaken fun _ _ h=>h.elim,fun _ _ h => .inl h,fun _ _ h => .inr h,fun _ h => .inl h⟩
theorem runs_enter {f:FuncId} {xs:Array Value} {R:Value→World→Prop} (he:(callFunc f xs).run P w = .ok (.enter f xs) w) (h:Calls P f xs w fun e w'=>match e with | .returned v=>R v w' | _=>False):Runs P (callFunc f xs) w R :=
  .inl ⟨f,xs,he,h⟩
theorem Ret.tup0 {g0:G} {w0:World} {ow0:Own} (r:Rel g w ow fr tm σ) (W:Way g0 w0 ow0 g w ow) (hs:g.sb=g0.sb):∃g' ow',Ret g0 w0 ow0 (.tup []) σ (.tuple #[]) g' w ow':=by
  let ow':Own:=fun p=>match p with | .slot _=>Nobody | p=>ow p
  have hsub:∀p b i,ow' p b i→ow p b i:=by
    intro p b i hp
    cases p with
    | slot j=>exact (show Nobody b i from hp).elim
    | stk m j=>exact hp
    | heap m j=>exact hp
  refine ⟨g,ow',⟨r.ss.own (fun _ _ _ _ h=>h) fun _ _ _ _ h=>h,⟨fun p b i hp=>r.own.wr _ _ _ (hsub _ _ _ hp),fun p b i hp=>r.own.box _ _ _ (hsub _ _ _ hp),fun p q b i hp hq=>r.own.one _ _ _ _ (hsub _ _ _ hp) (hsub _ _ _ hq)⟩,⟨rfl,fun i y hi => ?_⟩⟩,⟨W.tr,fun b o h=>W.may b o ?_,W.keep,W.hbn⟩,hs⟩
  · cases i with
    | zero=>simp at hi; subst hi; exact ⟨_,rfl,PV.of (.tup .nil .nil)⟩
    | succ i=>simp at hi
  · rcases h with h | ⟨p,h⟩
    · exact .inl h
    · exact .inr ⟨p,hsub _ _ _ h⟩
theorem Rel.putRow {S : List (List AV)} {H : List HObj} (r : Rel g w ow fr tm ⟨S, H⟩) {n b : Nat} {cs cs' : List AV} {vals : List Value} (hS : S[n]? = some cs) (hr : g.ref (.stk n) = some b) (hl : cs'.length = cs.length) (hv : VL g w cs' vals) (hc : ∀ c ∈ cs', c.isCell = true) (hu : AV.under.go 0 cs' = true) :
    ∃ow',Rel g (w.setCells b 0 vals) ow' fr tm ⟨S.set n cs',H⟩∧Way g w ow g (w.setCells b 0 vals) ow':=by
  have h:writeCells ⟨S,H⟩ (.stk n) 0 cs'=some ⟨S.set n cs',H⟩:=by
    have hsp:splice cs 0 cs'=cs':=by
      unfold splice
      split
      · rename_i v
        obtain ⟨x,rfl⟩:∃x,cs=[x]:=by
          match cs,hl with
          | [x],_=>exact ⟨x,rfl⟩
        rfl
      · simp; omega
    simp only [writeCells,boxOf,hS,Option.bind_some,Nat.zero_add,hl,Nat.le_refl,decide_true,Bool.true_and,mayHold,setBox]
    rw [if_pos (under_low n hu),hsp]
  obtain ⟨_,_,ow',r',t,k1,k2⟩:=r.write h hr (Cells.of (ro:=Nobody) hv hc) (Free.nobody _ _)
  refine ⟨ow',r',t,fun b o hm => .inl ?_,fun _ _ h => .inr h,fun _ h => .inl h⟩
  rcases hm with hm | ⟨p,hp⟩
  · exact .inl hm
  · rcases k1 p b o hp with hp | hp
    · exact .inr ⟨p,hp⟩
    · exact hp.elim
theorem putRow_heap {b:Nat} {F:Array Value} {xs:Array Value} {E:TypeId} {fz:Nat×Nat} (h:w.heap[b]? = some (.cells xs E fz)) (hl:F.size≤xs.size):(Sort.putRow id w b 0 F).heap=(w.setCells b 0 F.toList).heap:=by
  obtain ⟨xs',h1,h2,h3⟩:=setCells_heap b F.toList 0 w h (by simpa using hl)
  apply Array.ext_getElem?
  intro i
  by_cases hi:i=b
  · subst hi
    rw [h1]
    simp only [Sort.putRow,Sort.mapBlock,Array.getElem?_modify,if_true,h,Option.map_some,Sort.onCells,Option.some.injEq,Obj.cells.injEq,and_true,true_and]
    apply Array.ext_getElem?
    intro j
    rw [h3 j]
    simp only [Sort.putCells,Array.getElem?_mapIdx,Nat.zero_le,true_and,Nat.zero_add,Nat.sub_zero,Array.length_toList,id]
    by_cases hj:j < F.size
    · have hjx:j < xs.size:=by omega
      simp [hj,hjx]
    · simp [hj]
  · rw [setCells_ne b _ _ _ hi]
    simp only [Sort.putRow,Sort.mapBlock,Array.getElem?_modify,if_neg (Ne.symm hi)]
end
end Go.AM
namespace Go.AM
open Go
section
variable {P:Program} {cfg:Cfg} {g g':G} {w w':World} {ow ow':Own} {σ σ':St} {fr:Fr} {tm:Array Value}
theorem scalars_V:∀{cs:List AV} {vs:List Value},scalars cs=some vs→VL g w cs vs∧(∀c∈cs,c.isCell=true)∧AV.under.go 0 cs=true∧AV.bare.go cs=true∧∀v∈vs,v.oneCell'=true
  | [],vs,h=>by simp only [scalars,Option.some.injEq] at h; subst h; exact ⟨.nil,by simp,rfl,rfl,by simp⟩
  | .s x :: cs,vs,h=>by
    simp only [scalars,Option.map_eq_some_iff] at h
    obtain ⟨us,h1,rfl⟩:=h
    obtain ⟨k1,k2,k3,k4,k5⟩:=scalars_V h1
    exact ⟨.sc x k1,by simpa [AV.isCell] using k2,by simpa [AV.under.go,AV.under] using k3,by simpa [AV.bare.go,AV.bare] using k4,by
      intro v hv
      rcases List.mem_cons.1 hv with rfl | hv
      · cases x <;> rfl
      · exact k5 v hv⟩
theorem scalars_length:∀{cs:List AV} {vs:List Value},scalars cs=some vs→vs.length=cs.length:=fun h=>(scalars_V (g:=G.none) (w:=default) h).1.length
theorem scalars_app:∀{cs ds:List AV} {vs us:List Value},scalars cs=some vs→scalars ds=some us→scalars (cs ++ ds)=some (vs ++ us)
  | [],ds,vs,us,h,h'=>by simp only [scalars,Option.some.injEq] at h; subst h; exact h'
  | .s x :: cs,ds,vs,us,h,h'=>by
    simp only [scalars,Option.map_eq_some_iff] at h
    obtain ⟨ws,h1,rfl⟩:=h
    simp only [List.cons_append,scalars,scalars_app h1 h',Option.map_some]
theorem PVs.bareV:∀{l:List AV} {vs:List Value},AV.bare.go l=true→PVs g w l vs→VL g w l vs
  | [],_,_,h=>by cases h; exact .nil
  | x :: l,_,hb,h=>by
    simp only [AV.bare.go,Bool.and_eq_true] at hb
    cases h with
    | cons c1 c2=>exact VL.cons_of (c1.plain (AV.bare_common hb.1)) (PVs.bareV hb.2 c2)
theorem setCells_with (b:Nat):∀(vs:List Value) (o:Nat) (w:World),w.setCells b o vs={ w with heap:=(w.setCells b o vs).heap }
  | [],o,w=>rfl
  | v :: vs,o,w=>by
    rw [World.setCells]
    exact setCells_with b vs (o + 1) (w.setCell ⟨b,o,none⟩ v)
theorem putRow_world {b:Nat} {F:Array Value} {xs:Array Value} {E:TypeId} {fz:Nat×Nat} (h:w.heap[b]? = some (.cells xs E fz)) (hl:F.size≤xs.size):Sort.putRow id w b 0 F=w.setCells b 0 F.toList:=by
  rw [setCells_with,←putRow_heap h hl]; rfl
theorem box_plain {S : List (List AV)} {H : List HObj} {n b : Nat} {cs : List AV} {vs : List Value} (r : Rel g w ow fr tm ⟨S, H⟩) (hS : S[n]? = some cs) (hr : g.ref (.stk n) = some b) (hv : scalars cs = some vs) :
    (∀(i:Nat) (v:Value),vs[i]? = some v→w.cell? ⟨b,i,none⟩=some v∧w.frozen? ⟨b,i,none⟩=false)∧b < w.heap.size∧∃xs E fz,w.heap[b]? = some (.cells xs E fz)∧vs.length≤xs.size:=by
  obtain ⟨hu,b',zs,E,fz,hr',hB⟩:=r.ss.box (r := .stk n) hS
  rw [hr] at hr'; injection hr' with hr'; subst hr'
  have hl:=scalars_length hv
  have hp:=hB.pvs 0 cs.length
  rw [List.drop_zero,List.take_of_length_le (Nat.le_refl _)] at hp
  have he:=scalars_eq (PVs.bareV (scalars_V (g:=g) (w:=w) hv).2.2.2.1 hp.1) hv
  refine ⟨fun i v hi=>⟨?_,(hB.cell (by have:=(List.getElem?_eq_some_iff.1 hi).1; omega)).2⟩,?_,zs,E,fz,hB.obj,by have:=hB.le; omega⟩
  · have:=hp.2 i v (by rw [he]; exact hi)
    simpa using this
  · rcases Nat.lt_or_ge b w.heap.size with h | h
    · exact h
    · have:=hB.obj; rw [Array.getElem?_eq_none h] at this; cases this
theorem flat_get? {α:Type} {e:α→List Value} {k:Nat} (hk:∀x,(e x).length=k) [Inhabited α]:∀(l:List α) (t:Nat),t < l.length * k→(l.flatMap e)[t]? = (e l[t / k]!)[t % k]?
  | [],t,h=>by simp at h
  | x :: l,t,h=>by
    have k0 : 0 < k := by rcases Nat.eq_zero_or_pos k with h0 | h0; · subst h0; simp at h
                          · exact h0
    rw [List.flatMap_cons]
    by_cases ht:t < k
    · rw [List.getElem?_append_left (by rw [hk]; exact ht),Nat.div_eq_of_lt ht,Nat.mod_eq_of_lt ht]; rfl
    · obtain ⟨u,rfl⟩:∃u,t=u + k:=⟨t - k,by omega⟩
      rw [List.getElem?_append_right (by rw [hk]; omega),hk,Nat.add_sub_cancel,flat_get? hk l u (by rw [List.length_cons,Nat.add_mul,Nat.one_mul] at h; omega),Nat.add_div_right _ k0,Nat.add_mod_right]
      simp
theorem flatK_list {α:Type} [Inhabited α] {e:α→List Value} {k:Nat} (hk:∀x,(e x).length=k) (R:Array α):(Sort.flatK e k R).toList=R.toList.flatMap e:=by
  have hlen:∀l:List α,(l.flatMap e).length=l.length * k:=by
    intro l
    induction l with
    | nil=>simp
    | cons x l ih=>rw [List.flatMap_cons,List.length_append,hk,ih,List.length_cons,Nat.add_mul,Nat.one_mul,Nat.add_comm]
  apply List.ext_getElem?
  intro t
  by_cases ht:t < R.size * k
  · rw [flat_get? hk R.toList t (by simpa using ht)]
    have k0 : 0 < k := by rcases Nat.eq_zero_or_pos k with h0 | h0; · subst h0; simp at ht
                          · exact h0
    have hm:t % k < (e R[t / k]!).length:=by rw [hk]; exact Nat.mod_lt _ k0
    have hR:R.toList[t / k]! = R[t / k]! := by simp [Array.getElem!_eq_getD,Array.getD,List.getElem!_eq_getElem?_getD]; split <;> simp_all
    rw [hR,List.getElem?_eq_getElem hm]
    simp [Sort.flatK,ht,getElem!_pos,hm]
  · rw [List.getElem?_eq_none (by simp; omega),List.getElem?_eq_none (by rw [hlen]; simpa using ht)]
theorem encK_flat {α:Type} {f:α→AV} {e:α→List Value} (h:∀x,∃cs,f x = .agg cs∧scalars cs=some (e x)):∀l:List α,scalars (l.flatMap fun x=>(f x).cells)=some (l.flatMap e)
  | []=>rfl
  | x :: l=>by
    obtain ⟨cs,h1,h2⟩:=h x
    rw [List.flatMap_cons,List.flatMap_cons]
    refine scalars_app ?_ (encK_flat h l)
    rw [h1]; exact h2
theorem srt_model (hn : ∀ (f : FuncId) (fn : Func), P.funcs[f]? = some fn → fn.name ≠ "runtime.NumGoroutine") {ρ : Shelf.Ren} (L : Proofs.SlLaysF0.n6 P ρ) (k : Nat) (ha : ∀ w, (Go.isAgg (ρ.t 24)).run P w = .ok true w) (hz : ∀ w, (Go.sizeOf (ρ.t 24)).run P w = .ok k w)
    (α:Type) (i:Inhabited α) (f:α→AV) (cf:α→α→Int) (h:FuncId) (n:Nat) (d:Array α) (S:List (List AV)) (H:List HObj) (K:AV→St→Prop) (hf:EncK k f) (hO:Sort.SWO (fun x y=>decide (cf x y < 0))) (hb:hasBody P h=true)
    (hX:∀x y,ModelW P (.fn h) [f x,f y] ⟨[],[]⟩ fun v _=>v = .i (cf x y)) (hS:S[n]? = some (d.toList.flatMap fun x=>(f x).cells)) (hd:d.size≤2305843009213693952)
    (hK:∀R:Array α,Sort.PermIn 0 d.size d R→Sort.SortedIn (fun x y=>decide (cf x y < 0)) 0 d.size R→K (.tup []) ⟨S.set n (R.toList.flatMap fun x=>(f x).cells),H⟩) :
    ModelW P (.fn (ρ.f 6)) [.row (.stk n) 0 d.size d.size,.fn (.func h) [] []] ⟨S,H⟩ K:=by
  intro g w ow xs r s hs
  simp only [Tgt.sem,Option.some.injEq] at hs
  subst hs
  obtain ⟨u,v,rfl,h1,h2⟩:=r.sf.two
  obtain ⟨b,c,rfl,hr,k1,k2⟩:=(show V g w (.row (.stk n) 0 d.size d.size) u from h1).row_inv
  obtain ⟨p,q,rfl,c1,c2⟩:=(show V g w (.fn (.func h) [] []) v from h2).fn_inv
  obtain rfl:p = #[]:=by have:=c1.nil_left; exact Array.ext' this
  obtain rfl:q = #[]:=by have:=c2.nil_left; exact Array.ext' this
  obtain ⟨e,he⟩:∃e:α→List Value,∀x,∃cs,f x = .agg cs∧scalars cs=some (e x) :=
    ⟨fun x=>(scalars (f x).cells).getD [],fun x=>by obtain ⟨cs,vs,q1,q2,q3⟩:=hf x; exact ⟨cs,q1,by show scalars cs=some ((scalars (f x).cells).getD []); rw [q1]; show scalars cs=some ((scalars cs).getD []); rw [q3]; rfl⟩⟩
  have hk:∀x,(e x).length=k:=fun x=>by
    obtain ⟨cs,q1,q2⟩:=he x
    obtain ⟨cs',vs,q3,q4,_⟩:=hf x
    rw [q1] at q3; injection q3 with q3; subst q3
    rw [scalars_length q2,q4]
  have hone:∀x,∀v∈e x,v.oneCell'=true:=fun x=>by
    obtain ⟨cs,q1,q2⟩:=he x
    exact (scalars_V (g:=g) (w:=w) q2).2.2.2.2
  have hV:∀x g w,V g w (f x) (.agg (e x).toArray):=fun x g w=>by
    obtain ⟨cs,q1,q2⟩:=he x
    obtain ⟨q3,q4,_⟩:=scalars_V (g:=g) (w:=w) q2
    rw [q1]
    exact .agg q4 (by simpa using q3) .nil
  have hfl:=encK_flat he
  obtain ⟨B1,B2,zs,E,fz,B3,B4⟩:=box_plain r hS hr (hfl d.toList)
  have hlen:∀l:List α,(l.flatMap e).length=l.length * k:=by
    intro l
    induction l with
    | nil=>simp
    | cons x l ih=>rw [List.flatMap_cons,List.length_append,hk,ih,List.length_cons,Nat.add_mul,Nat.one_mul,Nat.add_comm]
  have hH:Sort.HoldsK e k w b 0 d:=fun j hj=>by
    have hj':j < (d.toList.flatMap e).length:=by rw [hlen]; simpa using hj
    have hq:=B1 j _ (List.getElem?_eq_getElem hj')
    rw [Nat.zero_add]
    refine ⟨?_,hq.2⟩
    rw [hq.1]
    have e2:(Sort.flatK e k d)[j]! = (d.toList.flatMap e)[j]:=by
      have:=flatK_list hk d
      rw [getElem!_pos _ j hj,←Array.getElem_toList]
      simp only [this]
    rw [e2]; rfl
  obtain ⟨fn,hfn,hbody⟩:∃fn,P.funcs[h]? = some fn∧fn.body.isSome=true:=by
    unfold hasBody at hb
    split at hb
    · rename_i fn hfn; exact ⟨fn,hfn,hb⟩
    · cases hb
  have eg:∀args w,(callFunc h args).run P w = .ok (.enter h args) w:=by
    obtain ⟨c,hc⟩:=Option.isSome_iff_exists.1 hbody
    exact Proofs.enters_of hfn (by have:=hn h fn hfn; simpa using this) hc
  have hcmp:Proofs.CmpLays P h #[] e k cf b 0 d.size w:=fun m os dk hdk x y=>by
    refine (callsW_grow hfn (hn h fn hfn) hbody (hX x y) _ (xs := #[.agg (e x).toArray,.agg (e y).toArray]) rfl ?_).mono fun e w' q=>q
    intro i a hi
    match i,hi with
    | 0,hi=>simp at hi; subst hi; exact ⟨_,rfl,hV x _ _⟩
    | 1,hi=>simp at hi; subst hi; exact ⟨_,rfl,hV y _ _⟩
    | i + 2,hi=>simp at hi
  have hc:=Proofs.AnyQ.slices_SortFunc L k ha hz e hk hone cf hO h #[] b 0 c d w eg hcmp hH B2 (by omega)
  refine runs_enter (L.f6.enters rfl _ _) (hc.mono fun e' w' ⟨q0,R,m,os,hp,hs,hw⟩ => ?_)
  subst q0
  have hRs:R.size=d.size:=hp.1
  refine ⟨.tup [],_,hK R hp hs,?_⟩
  obtain ⟨q3,q4,q5,_⟩:=scalars_V (g:=g) (w:=w) (hfl R.toList)
  obtain ⟨ow1,r1,W1⟩:=r.putRow (cs':=R.toList.flatMap fun x=>(f x).cells) hS hr (by rw [←scalars_length (hfl R.toList),←scalars_length (hfl d.toList),hlen,hlen]; simp [hRs]) q3 q4 q5
  have hw2:w'=Sort.grow (Sort.ahead (w.setCells b 0 (R.toList.flatMap e)) m) os:=by
    rw [hw,←flatK_list hk R,←putRow_world B3 (by rw [Sort.size_flatK]; rw [hlen] at B4; simpa [hRs] using B4)]
    rfl
  rw [hw2]
  exact Ret.tup0 (r1.grown os m) (W1.trans (Way.grown os m) r.ss.lt) rfl
theorem srtN_model {ρ : Shelf.Ren} (L:Proofs.SlLaysF0.n6 P ρ) (y:AV) (σ:St) (K:AV→St→Prop) (hK:K (.tup []) σ):ModelW P (.fn (ρ.f 6)) [.s .nilS,y] σ K:=by
  intro g w ow xs r s hs
  simp only [Tgt.sem,Option.some.injEq] at hs
  subst hs
  obtain ⟨u,v,rfl,h1,h2⟩:=r.sf.two
  obtain rfl:=(show V g w (.s .nilS) u from h1).sc_inv
  refine runs_enter (L.f6.enters rfl _ _) ((Proofs.AnyF.slices_SortFunc_none L none 0 v w).mono fun e w' ⟨q0,q1⟩ => ?_)
  subst q0; subst q1
  exact ⟨.tup [],σ,hK,Ret.tup0 r (Way.refl _ _ _) rfl⟩
theorem SF.one {x:AV} {xs:Array Value} (s:SF g w ow [x] xs):∃u,xs = #[u]∧PV g w (ow (.slot 0)) x u:=by
  obtain ⟨u,h1,h2⟩:=s.val 0 x rfl
  refine ⟨u,?_,h2⟩
  have hsz:xs.size=1:=s.size
  apply Array.ext_getElem?
  intro i
  match i with
  | 0=>rw [h1]; rfl
  | i + 1=>rw [Array.getElem?_eq_none (by omega)]; simp
theorem srIN_model {ρ : Shelf.Ren} (L:Proofs.SlLaysM.n5 P ρ) (σ:St) (K:AV→St→Prop) (hK:K (.tup []) σ):ModelW P (.fn (ρ.f 5)) [.s .nilS] σ K:=by
  intro g w ow xs r s hs
  simp only [Tgt.sem,Option.some.injEq] at hs
  subst hs
  obtain ⟨u,rfl,h1⟩:=r.sf.one
  obtain rfl:=(show V g w (.s .nilS) u from h1).sc_inv
  refine runs_enter (L.f5.enters rfl _ _) ((Proofs.AnyM.slices_Sort_int_none L none 0 w).mono fun e w' ⟨q0,q1⟩ => ?_)
  subst q0; subst q1
  exact ⟨.tup [],σ,hK,Ret.tup0 r (Way.refl _ _ _) rfl⟩
theorem ints_scalars:∀l:List Int,scalars (l.map fun x=>AV.s (.int .i64 x))=some (l.map (Value.int .i64))
  | []=>rfl
  | x :: l=>by simp only [List.map_cons,scalars,ints_scalars l,Option.map_some]; rfl
theorem putRow_id (e:Int→Value) (w:World) (b:Nat) (d:Array Int):Sort.putRow e w b 0 d=Sort.putRow id w b 0 (d.map e):=by
  unfold Sort.putRow
  congr 1
  funext c
  apply Array.ext_getElem?
  intro j
  simp only [Sort.putCells,Array.getElem?_mapIdx,Nat.zero_le,true_and,Nat.zero_add,Nat.sub_zero,Array.size_map]
  by_cases hj:j < d.size
  · simp [hj]
  · simp [hj]
theorem srI_model {ρ : Shelf.Ren} (L : Proofs.SlLaysM.n5 P ρ) (n : Nat) (l : List Int) (S : List (List AV)) (H : List HObj) (K : AV → St → Prop) (hS : S[n]? = some (l.map fun x => .s (.int .i64 x))) (hd : l.length ≤ 2305843009213693952)
    (hK:K (.tup []) ⟨S.set n ((l.mergeSort fun x y=>decide (x≤y)).map fun x => .s (.int .i64 x)),H⟩):ModelW P (.fn (ρ.f 5)) [.row (.stk n) 0 l.length l.length] ⟨S,H⟩ K:=by
  intro g w ow xs r s hs
  simp only [Tgt.sem,Option.some.injEq] at hs
  subst hs
  obtain ⟨u,rfl,h1⟩:=r.sf.one
  obtain ⟨b,c,rfl,hr,k1,k2⟩:=(show V g w (.row (.stk n) 0 l.length l.length) u from h1).row_inv
  obtain ⟨B1,B2,zs,E,fz,B3,B4⟩:=box_plain r hS hr (ints_scalars l)
  have hH:Sort.Holds (Value.int .i64) w b 0 l.toArray:=fun j hj=>by
    have hj':j < l.length:=by simpa using hj
    have:=B1 j (.int .i64 l[j]) (by simp [hj'])
    rw [Nat.zero_add]
    simpa [hj',getElem!_pos] using this
  refine runs_enter (L.f5.enters rfl _ _) ((Proofs.AnyM.slices_Sort_int L b 0 c l w hH B2 (by omega)).mono fun e w' ⟨q0,m,os,hw⟩ => ?_)
  subst q0
  refine ⟨.tup [],_,hK,?_⟩
  have hlen:(l.mergeSort fun x y=>decide (x≤y)).length=l.length:=List.length_mergeSort _
  obtain ⟨q3,q4,q5,_⟩:=scalars_V (g:=g) (w:=w) (ints_scalars (l.mergeSort fun x y=>decide (x≤y)))
  obtain ⟨ow1,r1,W1⟩:=r.putRow (cs':=(l.mergeSort fun x y=>decide (x≤y)).map fun x => .s (.int .i64 x)) hS hr (by simp [hlen]) q3 q4 q5
  have hw2:w'=Sort.grow (Sort.ahead (w.setCells b 0 ((l.mergeSort fun x y=>decide (x≤y)).map (Value.int .i64))) m) os:=by
    have:=putRow_world (F:=((l.mergeSort fun x y=>decide (x≤y)).map (Value.int .i64)).toArray) B3 (by simpa [hlen] using B4)
    rw [hw,show w.setCells b 0 ((l.mergeSort fun x y=>decide (x≤y)).map (Value.int .i64))=_ from this.symm,←List.map_toArray,←putRow_id]
    rfl
  rw [hw2]
  exact Ret.tup0 (r1.grown os m) (W1.trans (Way.grown os m) r.ss.lt) rfl
theorem alone_model (f:FuncId) (args bs:List AV) (σ:St) (K Q:AV→St→Prop) (hro:RoL σ args bs) (h:ModelW P (.fn f) bs ⟨[],[]⟩ Q) (hQ:∀v s,Q v s→v.alone=true∧K v σ):ModelW P (.fn f) args σ K:=by
  intro g w ow xs r s hs
  have hv:=hro.sound r.ss r.sf.pvs
  have hl:xs.size=bs.length:=by have:=hv.length; simpa using this
  refine (h G.none w Own.none xs (rel_none w hl fun i a hi=>by obtain ⟨v,h1,h2⟩:=hv.get hi; exact ⟨v,by simpa using h1,h2⟩) s hs).mono fun rv w' ⟨v,s',hq,g1,ow1,hr⟩ => ?_
  exact ⟨v,σ,(hQ v s' hq).2,Ret.alone r hr (hQ v s' hq).1⟩
end
end Go.AM
namespace Go.AM
open Go
section
variable {P:Program} {g g':G} {w w':World} {ow ow' ow1:Own} {σ σ':St} {fr:Fr} {tm:Array Value}
theorem SF.three {x y z:AV} {xs:Array Value} (s:SF g w ow [x,y,z] xs):∃u v t,xs = #[u,v,t]∧PV g w (ow (.slot 0)) x u∧PV g w (ow (.slot 1)) y v∧PV g w (ow (.slot 2)) z t:=by
  obtain ⟨u,h1,h2⟩:=s.val 0 x rfl
  obtain ⟨v,h3,h4⟩:=s.val 1 y rfl
  obtain ⟨t,h5,h6⟩:=s.val 2 z rfl
  refine ⟨u,v,t,?_,h2,h4,h6⟩
  have hsz:xs.size=3:=s.size
  apply Array.ext_getElem?
  intro i
  match i with
  | 0=>rw [h1]; rfl
  | 1=>rw [h3]; rfl
  | 2=>rw [h5]; rfl
  | i + 3=>rw [Array.getElem?_eq_none (by omega)]; simp
theorem Ret.of {wr' : Nat → Nat → Prop} {ro : Nat → Nat → Prop} {u val : Value} {v : AV} (r : Rel { g with wr := wr' } w' ow1 [.undef] #[u] σ) (hv : PV { g with wr := wr' } w' ro v val) (f : Free { g with wr := wr' } ow1 ro) (t : Tr (May g ow) g w { g with wr := wr' } w')
    (h1:∀p b o,ow1 p b o→May g ow b o∨w.heap.size≤b) (h2:∀b o,ro b o→May g ow b o∨w.heap.size≤b) (h3:∀b o,g.isBox b→wr' b o→May g ow b o∨w.heap.size≤b) (h4:∀b o,g.wr b o→May g ow b o∨wr' b o) :
    ∃g' ow',Ret g w ow v σ val g' w' ow':=by
  obtain ⟨ow',h⟩:=Out.of (dst:=some 0) r hv f t h1 h2 h3 h4 (fun _ h => .inl h)
  exact ⟨_,ow',h.rel,h.way,rfl⟩
theorem cells_set {b n i m k : Nat} {cs vs : List Value} {W : World} (hcl : cs.length = n * k) (hvl : vs.length = m * k) (hi : i ≤ n) (hx : ∀ j, j < (n + m) * k → (W.cell? ⟨b, j, none⟩).isSome = true) (hcs : ∀ j v, cs[j]? = some v → W.cell? ⟨b, j, none⟩ = some v) :
    ∀(j:Nat) (v:Value),(cs.take (i * k) ++ vs ++ cs.drop (i * k))[j]? = some v→((W.setCells b ((i + m) * k) (cs.drop (i * k))).setCells b (i * k) vs).cell? ⟨b,j,none⟩=some v:=by
  have hik:i * k≤n * k:=Nat.mul_le_mul_right _ hi
  have hadd:(i + m) * k=i * k + m * k:=Nat.add_mul _ _ _
  have hnm:(n + m) * k=n * k + m * k:=Nat.add_mul _ _ _
  have hdl:(cs.drop (i * k)).length=n * k - i * k:=by rw [List.length_drop,hcl]
  have htl:(cs.take (i * k)).length=i * k:=by rw [List.length_take]; omega
  have hx1:∀j,j < (n + m) * k→((W.setCells b ((i + m) * k) (cs.drop (i * k))).cell? ⟨b,j,none⟩).isSome=true:=fun j hj=>Proofs.isSome_setCells b _ _ _ (fun t ht=>hx _ (by omega)) _ (hx j hj)
  intro j v hj
  by_cases h1:j < i * k
  · rw [List.append_assoc,List.getElem?_append_left (by omega),List.getElem?_take,if_pos h1] at hj
    rw [World.cell?_setCells_out b _ _ _ _ (fun _ _ => .inl h1),World.cell?_setCells_out b _ _ _ _ (fun _ _ => .inl (by show j < _; omega))]
    exact hcs j v hj
  · by_cases h2:j < i * k + m * k
    · rw [List.append_assoc,List.getElem?_append_right (by omega),htl,List.getElem?_append_left (by omega)] at hj
      have:=World.cell?_setCells_in b vs (i * k) (W.setCells b ((i + m) * k) (cs.drop (i * k))) (fun t ht=>hx1 _ (by omega)) (j - i * k) (by omega)
      rw [show i * k + (j - i * k)=j by omega] at this
      rw [this]
      obtain ⟨hl,hj⟩:=List.getElem?_eq_some_iff.1 hj
      rw [←hj]
    · rw [List.getElem?_append_right (by rw [List.length_append]; omega),List.length_append,htl,hvl] at hj
      rw [World.cell?_setCells_out b _ _ _ _ (fun _ _ => .inr (by show _≤j; omega))]
      have hl:=(List.getElem?_eq_some_iff.1 hj).1
      have:=World.cell?_setCells_in b (cs.drop (i * k)) ((i + m) * k) W (fun t ht=>hx _ (by omega)) (j - (i * k + m * k)) hl
      rw [show (i + m) * k + (j - (i * k + m * k))=j by omega] at this
      rw [this]
      obtain ⟨hl,hj⟩:=List.getElem?_eq_some_iff.1 hj
      rw [←hj]
theorem heap_set {h : Array Obj} {W : World} {X : List Value} {E : TypeId} {fz : Nat × Nat} (hW : W.heap = h.push (.cells X.toArray E fz)) {o : Nat} {vs : List Value} (hl : o + vs.length ≤ X.length) :
    (W.setCells h.size o vs).heap=h.push (.cells (X.take o ++ vs ++ X.drop (o + vs.length)).toArray E fz):=by
  have hb:W.heap[h.size]? = some (.cells X.toArray E fz):=by rw [hW]; simp
  obtain ⟨xs',h1,h2,h3⟩:=setCells_heap h.size vs o W hb (by simpa using hl)
  apply Array.ext_getElem?
  intro i
  by_cases hi:i=h.size
  · subst hi
    rw [h1,Array.getElem?_push_size]
    congr 2
    apply Array.ext_getElem?
    intro j
    rw [h3 j]
    simp only [List.getElem?_toArray]
    by_cases hj:o≤j∧j < o + vs.length
    · rw [if_pos hj,List.append_assoc,List.getElem?_append_right (by rw [List.length_take]; omega),List.length_take,Nat.min_eq_left (by omega),List.getElem?_append_left (by omega)]
    · rw [if_neg hj]
      by_cases h4:j < o
      · rw [List.append_assoc,List.getElem?_append_left (by rw [List.length_take]; omega),List.getElem?_take,if_pos h4]
      · rw [List.getElem?_append_right (by rw [List.length_append,List.length_take]; omega),List.length_append,List.length_take,Nat.min_eq_left (by omega),List.getElem?_drop]
        congr 1; omega
  · rw [setCells_ne h.size _ _ _ hi,hW]
    simp only [Array.getElem?_push,if_neg hi]
theorem overlaps_false {ρ : Shelf.Ren} {k bt : Nat} {zr : Value} (L : Proofs.InsL P ρ k zr bt) (b vb voff m vc : Nat) (E1 E2 : TypeId) (kA kB : Nat) (hsa : w.shape? vb = some (E1, kA)) (hkA : kA ≠ 0) (hsb : w.shape? b = some (E2, kB)) (hkB : kB ≠ 0) (hf : ∀ x, w.frozen? ⟨b, x, none⟩ = false)
    (lb cb bo:Nat) (hbo:vb=b→bo + lb * k≤voff) :
    (callFunc (ρ.f 29) #[.slice (some ⟨vb,voff,none⟩) m vc,.slice (some ⟨b,bo,none⟩) lb cb]).run P w = .ok (.value (.bool false)) w:=by
  obtain ⟨F,f1,f2,f3,f4,f5⟩:=L.f29
  rw [run_callFunc_extern f1 f2 f3 f4 f5]
  have hz:=L.z9
  show (Sem.run P (do
    let some t:=(#[ρ.t 24,ρ.t 24]:Array TypeId)[0]? | stuck "slices.overlaps: no parameter types"
    let .slice elem ←underlying t | stuck "slices.overlaps: slice type expected"
    let size ←sizeOf elem
    match (some ⟨vb,voff,none⟩:Option Addr),(some ⟨b,bo,none⟩:Option Addr) with
    | some a,some b =>
      if m=0∨lb=0∨size=0 then pure (Value.bool false)
      else if a.block != b.block && (←frozen a) && (←frozen b) then unsupported .addressObserved
      else do
        if a.block != b.block then do
          noView a; noView b
          if ←mayBeOne a b then return Value.bool ((←choose (.extern "sameAddr.stringBytes" 2)) == 1)
        pure (Value.bool (a.block == b.block && a.off < b.off + lb * size && b.off < a.off + m * size))
    | _,_=>pure (Value.bool false)) w).andThen _=_
  by_cases h0:m=0∨lb=0∨k=0
  · simp [run_underlying L.t24,hz,h0]
  · by_cases hne:vb=b
    · subst hne
      have:=hbo rfl
      have h1:¬(voff < bo + lb * k):=by omega
      simp [run_underlying L.t24,hz,h0,frozen,Sem.run,h1]
    · have hnb:(vb != b)=true:=by simpa using hne
      have hnb':(vb == b)=false:=by simpa using hne
      cases kB with
      | zero=>exact absurd rfl hkB
      | succ kB =>
        cases kA with
        | zero=>exact absurd rfl hkA
        | succ kA =>
          cases hfa:w.frozen? ⟨vb,voff,none⟩ <;> cases hfb:w.frozen? ⟨vb,kA + 1,none⟩ <;>
          simp [run_underlying L.t24,hz,h0,hnb,hnb',frozen,noView,viewAt,mayBeOne,stringish,shape,Sem.run,hsa,hsb,hf,hfa,hfb]
theorem SameEnv.trans {w w1 w2:World} (h:SameEnv w w1) (h':SameEnv w1 w2):SameEnv w w2:=⟨h'.1.trans h.1,h'.2.1.trans h.2.1,h'.2.2.1.trans h.2.2.1,Nat.le_trans h.2.2.2 h'.2.2.2⟩
theorem cell_shape {b o:Nat} {v:Value} (h:w.cell? ⟨b,o,none⟩=some v):∃E n,w.shape? b=some (E,n)∧n≠0:=by
  unfold World.cell? at h
  unfold World.shape?
  split at h
  · rename_i c E fz hc
    rw [hc]
    refine ⟨E,c.size,rfl,?_⟩
    have:=(Array.getElem?_eq_some_iff.1 (by simpa using h)).1
    omega
  · cases h
theorem InsL_sz {ρ : Shelf.Ren} {k bt:Nat} {zr:Value} (L:Proofs.InsL P ρ k zr bt) {n:Nat} (h:n * bt≤140737488355328):n≤140737488355328:=Nat.le_trans (Nat.le_mul_of_pos_right _ L.byt) h
theorem ins_place (r : Rel g w ow fr tm σ) {w0 : World} (hw0 : w0.heap = w.heap) (he0 : SameEnv w w0) {k n m i cap b : Nat} {es items : List AV} {cs vs : List Value} (hm : items.length = m) (U : Uniq g w (ow (.slot 0)) k es (.slice (some ⟨b, 0, none⟩) n cap) ⟨b, 0, none⟩ cap cs) (hn : es.length = n) (hi : i ≤ n)
    (hcap:n + m≤cap) (hitV:VL g w (items.flatMap AV.cells) vs) (hitE:Elems k items) (hitL:AV.under.go 0 items=true) (hone:∀v∈vs,v.oneCell'=true) :
    ∃g' ow',Ret g w ow (.list .uniq k (es.take i ++ items ++ es.drop i)) σ (.slice (some ⟨b,0,none⟩) (n + m) cap) g' ((w0.setCells b ((i + m) * k) (cs.drop (i * k))).setCells b (i * k) vs) ow':=by
  have hC:∀x,w0.cell? x=w.cell? x:=fun x=>by unfold World.cell?; rw [hw0]
  have hF:∀x,w0.frozen? x=w.frozen? x:=fun x=>by unfold World.frozen?; rw [hw0]
  have hcl:cs.length=n * k:=by rw [U.len,hn]
  have hvl:vs.length=m * k:=by rw [hitV.length,elems_length fun e he=>(hitE e he).1,hm]
  have hle:(n + m) * k≤cap * k:=Nat.mul_le_mul_right _ hcap
  have hik:i * k≤n * k:=Nat.mul_le_mul_right _ hi
  have hadd:(i + m) * k=i * k + m * k:=Nat.add_mul _ _ _
  have hnm:(n + m) * k=n * k + m * k:=Nat.add_mul _ _ _
  have hx:∀j,j < (n + m) * k→(w0.cell? ⟨b,j,none⟩).isSome=true:=fun j hj=>by
    obtain ⟨v,hv⟩:=(U.spare j (Nat.zero_le _) (by omega)).2.1
    rw [Nat.zero_add] at hv
    rw [hC,hv]; rfl
  have hfz:∀j,j < (n + m) * k→w0.frozen? ⟨b,j,none⟩=false:=fun j hj=>by
    have:=(U.spare j (Nat.zero_le _) (by omega)).2.2
    rw [Nat.zero_add] at this
    rw [hF]; exact this
  have hdl:(cs.drop (i * k)).length=n * k - i * k:=by rw [List.length_drop,hcl]
  have t1:Tr Nought g w g w0:=Tr.heap hw0 he0
  have t2:=Tr.setCells (g:=g) (w:=w0) (b:=b) (off:=(i + m) * k) (vs:=cs.drop (i * k)) (fun j hj=>hx _ (by omega)) (fun j hj=>hfz _ (by omega))
  have t3:=Tr.setCells (g:=g) (w:=w0.setCells b ((i + m) * k) (cs.drop (i * k))) (b:=b) (off:=i * k) (vs:=vs) (fun j hj=>Proofs.isSome_setCells b _ _ _ (fun t ht=>hx _ (by omega)) _ (hx _ (by omega))) (fun j hj=>by rw [World.frozen?_setCells]; exact hfz _ (by omega))
  have own:∀o,o < cap * k→ow (.slot 0) b o:=fun o ho=>by have:=(U.spare o (Nat.zero_le _) ho).1; rwa [Nat.zero_add] at this
  have T:Tr (ow (.slot 0)) g w g ((w0.setCells b ((i + m) * k) (cs.drop (i * k))).setCells b (i * k) vs) :=
    ((t1.weaken fun _ _ h=>h.elim).trans ((t2.weaken (M':=ow (.slot 0)) fun b' o h=>h.1▸own o (by omega)).trans (t3.weaken (M':=ow (.slot 0)) fun b' o h=>h.1▸own o (by omega)) fun _ _ h => .inl h) fun _ _ h => .inl h)
  have r0:=r.mem (fr':=[.undef]) (tm' := #[undef]) (.undef _ .nil)
  have f0:Free g ow.mem (ow (.slot 0)):=⟨fun b o h=>r.own.wr _ _ _ h,fun b o h=>r.own.box _ _ _ h,fun p b o h h'=>by
    have e:=r.own.one _ _ _ _ (ow.mem_sub p b o h) h'
    subst e
    exact h⟩
  have r1:=r0.touch f0 T fun _ _ h=>h
  have L2:=T.later fun b o h=>r.own.wr _ _ _ h
  have hfin:=cells_set (W:=w0) hcl hvl hi hx (fun j v hj=>by have:=U.cell j v hj; rw [Nat.zero_add] at this; rw [hC]; exact this)
  have hlen:(es.take i ++ items ++ es.drop i).length=n + m:=by simp only [List.length_append,List.length_take,List.length_drop,hm,hn]; omega
  have hes:∀e∈es,e.cells.length=k:=fun e he=>(U.elems e he).1
  have hcells:(es.take i ++ items ++ es.drop i).flatMap AV.cells=(es.flatMap AV.cells).take (i * k) ++ items.flatMap AV.cells ++ (es.flatMap AV.cells).drop (i * k):=by
    rw [List.flatMap_append,List.flatMap_append,flatMap_take hes,flatMap_drop hes]
  have PVn:PV g ((w0.setCells b ((i + m) * k) (cs.drop (i * k))).setCells b (i * k) vs) (ow (.slot 0)) (.list .uniq k (es.take i ++ items ++ es.drop i)) (.slice (some ⟨b,0,none⟩) (n + m) cap) :=
    ⟨⟨b,0,none⟩,cap,cs.take (i * k) ++ vs ++ cs.drop (i * k),{
      val:=by rw [hlen]
      le:=by rw [hlen]; exact hcap
      pos:=U.pos
      spot:=rfl
      elems:=fun e he=>by
        rcases List.mem_append.1 he with he | he
        · rcases List.mem_append.1 he with he | he
          · exact U.elems e (List.mem_of_mem_take he)
          · exact hitE e he
        · exact U.elems e (List.mem_of_mem_drop he)
      low:=by
        have hl:=under_mem.1 U.low
        rw [under_app,under_app,hitL,under_mem.2 fun a ha=>hl a (List.mem_of_mem_take ha),under_mem.2 fun a ha=>hl a (List.mem_of_mem_drop ha)]; rfl
      vl:=by rw [hcells]; exact (((U.vl.takes _).app hitV).app (U.vl.drops _)).later L2
      cell:=fun j v hj=>by rw [Nat.zero_add]; exact hfin j v hj
      spare:=U.spare.later T
      off:=rfl
      lt:=Nat.lt_of_lt_of_le U.lt T.size
      all:=U.all
      nf:=fun hs x=>by rw [T.froz _ _ U.lt]; exact U.nf hs x }⟩
  exact Ret.of r1 PVn f0 (T.weaken fun _ _ h => .inr ⟨_,h⟩) (fun p b o h => .inl (.inr ⟨p,ow.mem_sub p b o h⟩)) (fun b o h => .inl (.inr ⟨_,h⟩)) (fun b o h1 h2 => .inl (.inl ⟨h1,h2⟩)) fun _ _ h => .inr h
theorem ins_new (r : Rel g w ow fr tm σ) {k cap : Nat} {L : List AV} {xs rest : List Value} {E : TypeId} (hk : 0 < k) (hE : Elems k L) (hL : AV.under.go 0 L = true) (hV : VL g w (L.flatMap AV.cells) xs) (hcap : L.length ≤ cap) (hl : (xs ++ rest).length = cap * k)
    (hw:w'.heap=w.heap.push (.cells (xs ++ rest).toArray E (0,0))) (henv:SameEnv w w'):∃g' ow',Ret g w ow (.list .uniq k L) σ (.slice (some ⟨w.heap.size,0,none⟩) L.length cap) g' w' ow':=by
  have r0:=r.mem (fr':=[.undef]) (tm' := #[undef]) (.undef _ .nil)
  obtain ⟨wr',ro,k1,k2,k3,k4,k5,k6,k7⟩:=r0.fresh hk hE hL hV hcap hl (by intro o _; simp) hw henv
  exact Ret.of k1 k7 k3 (k2.weaken fun _ _ h=>h.elim) (fun p b o h => .inl (.inr ⟨p,ow.mem_sub p b o h⟩)) (fun b o h => .inr (Nat.le_of_eq (k4 b o h).symm)) (fun b o h1 h2=>(k5 b o h2).elim (fun h => .inl (.inl ⟨h1,h⟩)) fun h => .inr (Nat.le_of_eq h.symm)) fun b o h => .inr (k6 b o h)
theorem ins_model {ρ : Shelf.Ren} (k : Nat) (zr : Value) (bt : Nat) (L : Proofs.InsL P ρ k zr bt) (hk1 : 1 < k) (es items : List AV) (i : Nat) (fl : Fl) (σ : St) (K : AV → St → Prop) (hi : i ≤ es.length) (hne : items ≠ []) (hbig : (es.length + items.length) * bt ≤ 140737488355328) (hfl : fl = .sh ∨ fl = .full)
    (hK:K (.list .uniq k (es.take i ++ items ++ es.drop i)) σ):ModelW P (.fn (ρ.f 22)) [.list .uniq k es,.s (.int .i64 i),.list fl k items] σ K:=by
  intro g w ow xs r s hs
  simp only [Tgt.sem,Option.some.injEq] at hs
  subst hs
  obtain ⟨u0,u1,u2,rfl,h0,h1,h2⟩:=r.sf.three
  obtain ⟨a,cap,cs,U⟩:=h0
  obtain rfl:=(show V g w (.s (.int .i64 i)) u1 from h1).sc_inv
  obtain rfl:=U.val
  have hV:V g w (.list .sh k items) u2:=by rcases hfl with rfl | rfl <;> exact VL.full_sh h2
  have hm0:0 < items.length:=List.length_pos_iff.2 hne
  obtain ⟨b,o,sp⟩:=a
  have e1:=U.off
  have e2:=U.spot
  dsimp only at e1 e2
  subst e1; subst e2
  cases hV with
  | lnil _ _=>exact absurd rfl hne
  | @list _ _ _ ad len c2 vs _ _ c1 c3 c4 c5 c6 c7 c8 c9 c10 _ =>
    obtain ⟨vb,voff,vsp⟩:=ad
    have e3:vsp=none:=c6.resolve_left hne
    subst e3
    subst c3
    have hk:=U.pos
    have hcl:=U.len
    have hvl:vs.length=items.length * k:=by rw [c9.length,elems_length fun e he=>(c7 e he).1]
    have hvs:∀j v,vs[j]? = some v→w.cell? ⟨vb,voff + j,none⟩=some v:=fun j v hj=>(c10 j v hj).1
    have hcs:∀j v,cs[j]? = some v→w.cell? ⟨b,0 + j,none⟩=some v:=fun j v hj=>U.cell j v hj
    have h1v:∀v∈vs,v.oneCell'=true:=Cells.one' (Cells.of (ro:=Nobody) c9 fun c hc=>by
      obtain ⟨e,he,hce⟩:=List.mem_flatMap.1 hc
      exact (c7 e he).2 c hce)
    have h1c:∀v∈cs,v.oneCell'=true:=Cells.one' (Cells.of (ro:=Nobody) U.vl fun c hc=>by
      obtain ⟨e,he,hce⟩:=List.mem_flatMap.1 hc
      exact (U.elems e he).2 c hce)
    have hsz:=InsL_sz L hbig
    have he:∀{R:Value→World→Prop},(Calls P (ρ.f 22) #[.slice (some ⟨b,0,none⟩) es.length cap,.int .i64 i,.slice (some ⟨vb,voff,none⟩) items.length c2] w fun e w'=>match e with | .returned v=>R v w' | _=>False)→Runs P (callFunc (ρ.f 22) #[.slice (some ⟨b,0,none⟩) es.length cap,.int .i64 i,.slice (some ⟨vb,voff,none⟩) items.length c2]) w R :=
      fun h=>runs_enter (L.f22.enters rfl _ _) h
    have hvm:0 < items.length * k:=Nat.mul_pos hm0 hk
    have hlen:(es.take i ++ items ++ es.drop i).length=es.length + items.length:=by simp only [List.length_append,List.length_take,List.length_drop]; omega
    have hes:∀e∈es,e.cells.length=k:=fun e he=>(U.elems e he).1
    have hcells:(es.take i ++ items ++ es.drop i).flatMap AV.cells=(es.flatMap AV.cells).take (i * k) ++ items.flatMap AV.cells ++ (es.flatMap AV.cells).drop (i * k):=by
      rw [List.flatMap_append,List.flatMap_append,flatMap_take hes,flatMap_drop hes]
    have hE:Elems k (es.take i ++ items ++ es.drop i):=fun e he=>by
      rcases List.mem_append.1 he with he | he
      · rcases List.mem_append.1 he with he | he
        · exact U.elems e (List.mem_of_mem_take he)
        · exact c7 e he
      · exact U.elems e (List.mem_of_mem_drop he)
    have hL:AV.under.go 0 (es.take i ++ items ++ es.drop i)=true:=by
      have hl:=under_mem.1 U.low
      rw [under_app,under_app,c8,under_mem.2 fun a ha=>hl a (List.mem_of_mem_take ha),under_mem.2 fun a ha=>hl a (List.mem_of_mem_drop ha)]; rfl
    have hVn:VL g w ((es.take i ++ items ++ es.drop i).flatMap AV.cells) (cs.take (i * k) ++ vs ++ cs.drop (i * k)):=by rw [hcells]; exact ((U.vl.takes _).app c9).app (U.vl.drops _)
    have fin:∀{val:Value} {w':World},(∃g' ow',Ret g w ow (.list .uniq k (es.take i ++ items ++ es.drop i)) σ val g' w' ow')→∃v σ',K v σ'∧∃g' ow',Ret g w ow v σ' val g' w' ow':=fun h=>⟨_,σ,hK,h⟩
    by_cases hroom:es.length + items.length≤cap
    · have hle:(es.length + items.length) * k≤cap * k:=Nat.mul_le_mul_right _ hroom
      have hx:∀j,j < (es.length + items.length) * k→(w.cell? ⟨b,0 + j,none⟩).isSome=true:=fun j hj=>by
        obtain ⟨v,hv⟩:=(U.spare j (Nat.zero_le _) (by omega)).2.1
        rw [hv]; rfl
      have hfz:∀j,j < (es.length + items.length) * k→w.frozen? ⟨b,0 + j,none⟩=false:=fun j hj=>(U.spare j (Nat.zero_le _) (by omega)).2.2
      have place:=fun {w0:World} (h:w0.heap=w.heap) (h':SameEnv w w0)=>ins_place r h h' rfl U rfl hi hroom c9 c7 c8 h1v
      by_cases hie:i=es.length
      · subst hie
        have hnm:(es.length + items.length) * k=es.length * k + items.length * k:=Nat.add_mul _ _ _
        refine he ((Proofs.insK_end_room L b 0 es.length cap vb voff items.length c2 vs w hm0 hroom hvl (fun j hj=>by rw [Nat.zero_add]; have:=hx (es.length * k + j) (by omega); rwa [Nat.zero_add] at this) (fun j hj=>by rw [Nat.zero_add]; have:=hfz (es.length * k + j) (by omega); rwa [Nat.zero_add] at this) hvs h1v).mono fun e w' q => ?_)
        obtain ⟨rfl,rfl⟩:=q
        refine fin ?_
        have hd:cs.drop (es.length * k)=[]:=List.drop_of_length_le (by omega)
        have q:=place (w0:=w) rfl .r
        rw [hd] at q
        rw [Nat.zero_add]
        exact q
      · have hlt:i < es.length:=by omega
        have hvo:vb=b→cap * k≤voff:=fun e=>by
          subst e
          rcases Nat.lt_or_ge voff (cap * k) with h | h
          · have q1:=r.own.wr _ _ _ (U.spare voff (Nat.zero_le _) h).1
            have q2:=(c10 0 _ (List.getElem?_eq_getElem (by omega))).2
            rw [Nat.zero_add] at q1
            exact absurd q1 q2
          · exact h
        obtain ⟨E1,kA,s1,s2⟩:=cell_shape (hvs 0 _ (List.getElem?_eq_getElem (by omega)))
        obtain ⟨v0,hv0⟩:=(U.spare 0 (Nat.zero_le _) (by have:=Nat.mul_pos (show 0 < cap by omega) hk; exact this)).2.1
        obtain ⟨E2,kB,s3,s4⟩:=cell_shape hv0
        have hsum:(i + items.length) * k + (es.length + items.length - (i + items.length)) * k=(es.length + items.length) * k:=by rw [←Nat.add_mul]; congr 1; omega
        have hov:∀cb,(callFunc (ρ.f 29) #[.slice (some ⟨vb,voff,none⟩) items.length c2,.slice (some ⟨b,0 + (i + items.length) * k,none⟩) (es.length + items.length - (i + items.length)) cb]).run P w = .ok (.value (.bool false)) w:=fun cb =>
          overlaps_false L b vb voff items.length c2 E1 E2 kA kB s1 s2 s3 s4 (U.nf hk1) _ cb _ fun e=>by have:=hvo e; omega
        refine he ((Proofs.insK_shift L b 0 es.length cap i vb voff items.length c2 cs vs w hlt hm0 hroom (by omega) ?_ hcl hvl hcs hx hfz hvs h1c h1v hov).mono fun e w' q => ?_)
        · by_cases e:vb=b
          · exact .inr (by have:=hvo e; omega)
          · exact .inl e
        · obtain ⟨rfl,rfl⟩:=q
          rw [Nat.zero_add,Nat.zero_add]
          exact fin (place (w0:=w.drew) rfl .r)
    · have hroom':cap < es.length + items.length:=by omega
      have hG:=grownCap_ge w (es.length + items.length) cap (ρ.t 9)
      have hsumG:(es.length + items.length) * k + (grownCap w (es.length + items.length) cap (ρ.t 9) - (es.length + items.length)) * k=grownCap w (es.length + items.length) cap (ρ.t 9) * k:=by rw [←Nat.add_mul]; congr 1; omega
      have hnm:(es.length + items.length) * k=es.length * k + items.length * k:=Nat.add_mul _ _ _
      have hik:i * k≤es.length * k:=Nat.mul_le_mul_right _ hi
      have hzl:∀n,(Builtin.zeroCells zr.cells n).toList.length=n * k:=fun n=>by rw [Array.length_toList,Proofs.size_zc,L.zc]
      by_cases hie:i=es.length
      · subst hie
        refine he ((Proofs.insK_end_grow L (some ⟨b,0,none⟩) es.length cap vb voff items.length c2 cs vs w hm0 U.le hroom' hbig hcl hvl (fun h=>by cases h) (fun a ha j v hj=>by injection ha with ha; subst ha; rw [Addr.add_lit]; exact hcs j v hj) hvs h1v).mono fun e w' q => ?_)
        obtain ⟨rfl,rfl⟩:=q
        refine fin ?_
        have q:=ins_new (w':=w.drew.alloc (.cells ((cs ++ vs).toArray ++ Builtin.zeroCells zr.cells (grownCap w (es.length + items.length) cap (ρ.t 9) - (es.length + items.length))) (ρ.t 9))) (cap:=grownCap w (es.length + items.length) cap (ρ.t 9)) (rest:=(Builtin.zeroCells zr.cells (grownCap w (es.length + items.length) cap (ρ.t 9) - (es.length + items.length))).toList) (E := ρ.t 9) r hk hE hL hVn (by rw [hlen]; exact hG)
          (by rw [List.length_append,hzl,List.length_append,List.length_append,List.length_take,List.length_drop]; omega)
          (by
            show w.heap.push _=_
            congr 2
            apply Array.ext'
            rw [List.take_of_length_le (by omega),List.drop_of_length_le (by omega)]
            simp) .r
        rw [hlen] at q
        exact q
      · have hlt:i < es.length:=by omega
        refine he ((Proofs.insK_grow L b 0 es.length cap i vb voff items.length c2 cs vs w hlt hm0 U.le hroom' hbig hcl hvl hcs hvs h1c h1v).mono fun e w' q => ?_)
        obtain ⟨rfl,rfl⟩:=q
        refine fin ?_
        have htl:(cs.take (i * k)).length=i * k:=by rw [List.length_take]; omega
        have hz1:(es.length + items.length - i) * k + i * k=(es.length + items.length) * k:=by rw [←Nat.add_mul]; congr 1; omega
        have hadd:(i + items.length) * k=i * k + items.length * k:=Nat.add_mul _ _ _
        obtain ⟨Z,hZ⟩:∃Z,Z=(Builtin.zeroCells zr.cells (grownCap w (es.length + items.length) cap (ρ.t 9) - (es.length + items.length))).toList:=⟨_,rfl⟩
        have hZl:Z.length=(grownCap w (es.length + items.length) cap (ρ.t 9) - (es.length + items.length)) * k:=by rw [hZ,hzl]
        obtain ⟨Y,hY⟩:∃Y,Y=(Builtin.zeroCells zr.cells (es.length + items.length - i)).toList:=⟨_,rfl⟩
        have hYl:Y.length=(es.length + items.length - i) * k:=by rw [hY,hzl]
        obtain ⟨G,hGe⟩:∃G,G=grownCap w (es.length + items.length) cap (ρ.t 9):=⟨_,rfl⟩
        rw [←hGe] at hG hsumG hZ hZl ⊢
        have w0:((w.alloc (.cells ((cs.take (i * k)).toArray ++ Builtin.zeroCells zr.cells (es.length + items.length - i) ++ Builtin.zeroCells zr.cells (G - (es.length + items.length))) (ρ.t 9))).drew).heap=w.heap.push (.cells (cs.take (i * k) ++ (Y ++ Z)).toArray (ρ.t 9) (0,0)):=by
          show w.heap.push _=_
          congr 2
          apply Array.ext'
          simp [hY,hZ]
        have w1:=heap_set w0 (o:=i * k) (vs:=vs) (by rw [List.length_append,htl,List.length_append,hYl,hvl]; omega)
        have e0:(cs.take (i * k) ++ (Y ++ Z)).take (i * k)=cs.take (i * k):=by rw [List.take_append_of_le_length (by omega),List.take_of_length_le (by omega)]
        rw [e0] at w1
        have e1:(cs.take (i * k) ++ (Y ++ Z)).drop (i * k + vs.length)=(Y ++ Z).drop vs.length:=by rw [List.drop_append,List.drop_of_length_le (by omega),htl]; simp
        rw [e1] at w1
        have w2:=heap_set (W:=((((w.alloc (.cells ((cs.take (i * k)).toArray ++ Builtin.zeroCells zr.cells (es.length + items.length - i) ++ Builtin.zeroCells zr.cells (G - (es.length + items.length))) (ρ.t 9))).drew.setCells w.heap.size (i * k) vs).drew))) w1 (o:=(i + items.length) * k) (vs:=cs.drop (i * k)) (by rw [List.length_append,List.length_append,htl,List.length_drop,List.length_drop,List.length_append,hYl,hvl]; omega)
        have e2:(cs.take (i * k) ++ vs ++ (Y ++ Z).drop vs.length).take ((i + items.length) * k)=cs.take (i * k) ++ vs:=by
          rw [List.take_append_of_le_length (by rw [List.length_append]; omega),List.take_of_length_le (by rw [List.length_append]; omega)]
        have e3:(cs.take (i * k) ++ vs ++ (Y ++ Z).drop vs.length).drop ((i + items.length) * k + (cs.drop (i * k)).length)=Z:=by
          have hl2:(cs.take (i * k) ++ vs).length=i * k + items.length * k:=by rw [List.length_append]; omega
          rw [List.drop_append,List.drop_of_length_le (by rw [hl2,List.length_drop]; omega),List.nil_append,hl2,List.drop_drop,List.drop_append,List.drop_of_length_le (by rw [List.length_drop]; omega),List.nil_append]
          rw [show vs.length + ((i + items.length) * k + (cs.drop (i * k)).length - (i * k + items.length * k)) - Y.length=0 by rw [List.length_drop]; omega]
          rfl
        rw [e2,e3] at w2
        have q:=ins_new (cap:=G) (rest:=Z) (E := ρ.t 9) r hk hE hL hVn (by rw [hlen]; exact hG)
          (by rw [List.length_append,hZl,List.length_append,List.length_append,List.length_take,List.length_drop]; omega) w2
          (((SameEnv.r (w:=w) (w':=(w.alloc (.cells ((cs.take (i * k)).toArray ++ Builtin.zeroCells zr.cells (es.length + items.length - i) ++ Builtin.zeroCells zr.cells (G - (es.length + items.length))) (ρ.t 9))).drew)).trans (setCells_env w.heap.size vs (i * k) _)).trans ((SameEnv.r (w':=World.drew _)).trans (setCells_env w.heap.size (cs.drop (i * k)) ((i + items.length) * k) _)))
        rw [hlen] at q
        exact q
theorem insN_model {ρ : Shelf.Ren} (k : Nat) (zr : Value) (bt : Nat) (L : Proofs.InsL P ρ k zr bt) (hk1 : 1 < k) (items : List AV) (fl : Fl) (σ : St) (K : AV → St → Prop) (hne : items ≠ []) (hbig : items.length * bt ≤ 140737488355328) (hfl : fl = .sh ∨ fl = .full)
    (hK:K (.list .uniq k items) σ):ModelW P (.fn (ρ.f 22)) [.s .nilS,.s (.int .i64 (0:Nat)),.list fl k items] σ K:=by
  intro g w ow xs r s hs
  simp only [Tgt.sem,Option.some.injEq] at hs
  subst hs
  obtain ⟨u0,u1,u2,rfl,h0,h1,h2⟩:=r.sf.three
  obtain rfl:=(show V g w (.s .nilS) u0 from h0).sc_inv
  obtain rfl:=(show V g w (.s (.int .i64 (0:Nat))) u1 from h1).sc_inv
  have hV:V g w (.list .sh k items) u2:=by rcases hfl with rfl | rfl <;> exact VL.full_sh h2
  have hm0:0 < items.length:=List.length_pos_iff.2 hne
  cases hV with
  | lnil _ _=>exact absurd rfl hne
  | @list _ _ _ ad len c2 vs _ _ c1 c3 c4 c5 c6 c7 c8 c9 c10 _ =>
    obtain ⟨vb,voff,vsp⟩:=ad
    have e3:vsp=none:=c6.resolve_left hne
    subst e3
    subst c3
    have hvl:vs.length=items.length * k:=by rw [c9.length,elems_length fun e he=>(c7 e he).1]
    have hvs:∀j v,vs[j]? = some v→w.cell? ⟨vb,voff + j,none⟩=some v:=fun j v hj=>(c10 j v hj).1
    have h1v:∀v∈vs,v.oneCell'=true:=Cells.one' (Cells.of (ro:=Nobody) c9 fun c hc=>by
      obtain ⟨e,he,hce⟩:=List.mem_flatMap.1 hc
      exact (c7 e he).2 c hce)
    have hG:=grownCap_ge w (0 + items.length) 0 (ρ.t 9)
    have hzl:∀n,(Builtin.zeroCells zr.cells n).toList.length=n * k:=fun n=>by rw [Array.length_toList,Proofs.size_zc,L.zc]
    refine runs_enter (L.f22.enters rfl _ _) ((Proofs.insK_end_grow L none 0 0 vb voff items.length c2 [] vs w hm0 (Nat.le_refl _) (by omega) (by rw [Nat.zero_add]; exact hbig) (by simp) hvl (fun _=>rfl) (fun a ha=>by cases ha) hvs h1v).mono fun e w' q => ?_)
    obtain ⟨rfl,rfl⟩:=q
    refine ⟨_,σ,hK,?_⟩
    have hsumG:items.length * k + (grownCap w (0 + items.length) 0 (ρ.t 9) - (0 + items.length)) * k=grownCap w (0 + items.length) 0 (ρ.t 9) * k:=by rw [←Nat.add_mul]; congr 1; omega
    have q:=ins_new (w':=w.drew.alloc (.cells (([] ++ vs).toArray ++ Builtin.zeroCells zr.cells (grownCap w (0 + items.length) 0 (ρ.t 9) - (0 + items.length))) (ρ.t 9))) (cap:=grownCap w (0 + items.length) 0 (ρ.t 9)) (rest:=(Builtin.zeroCells zr.cells (grownCap w (0 + items.length) 0 (ρ.t 9) - (0 + items.length))).toList) (E := ρ.t 9) r c5 c7 c8 c9 (by omega)
      (by rw [List.length_append,hzl]; omega)
      (by
        show w.heap.push _=_
        congr 2
        apply Array.ext'
        simp) .r
    rw [Nat.zero_add] at q ⊢
    exact q
theorem Rel.dn (r : Rel g w ow fr tm σ) {b sz : Nat} {es : List AV} (h : σ.heap[b]? = some (.cells [.list .uniq sz es])) :
    ∃g' ow',Rel g' w ow' fr tm { σ with heap:=σ.heap.set b (.cells [.list .sh sz es]) }∧Way g w ow g' w ow'∧g'.sb=g.sb∧g'.hb=g.hb:=by
  have hcs:boxOf σ (.heap b)=some [.list .uniq sz es]:=by simp only [boxOf,h]
  obtain ⟨hu,bb,xs,E,fz,hr,hB⟩:=r.ss.box hcs
  have t:Tr Nought g w (g.less (ow (.heap b 0))) w:=Tr.less _
  have L:=t.later fun _ _ h=>h.elim
  have hX:∀b' o,g.isBox b'→¬ow (.heap b 0) b' o:=fun b' o hb hx=>r.own.box _ _ _ hx hb
  have hset:∀p b' o,ow.set (.heap b 0) Nobody p b' o→ow p b' o∧¬ow (.heap b 0) b' o:=fun p b' o hp=>by
    by_cases e:p = .heap b 0
    · subst e; rw [Own.set_same] at hp; exact hp.elim
    · rw [Own.set_other _ _ e] at hp; exact ⟨hp,fun hx=>e (r.own.one _ _ _ _ hp hx)⟩
  have hnew:BoxOK (g.less (ow (.heap b 0))) w (fun i=>ow.set (.heap b 0) Nobody (.heap b i)) bb [.list .sh sz es] xs E fz:=by
    refine ⟨hB.obj,hB.le,fun i a hi => ?_,fun i hi=>⟨⟨(hB.wr i hi).1,hX _ _ (G.ref_isBox hr)⟩,(hB.wr i hi).2⟩⟩
    cases i with
    | succ i=>simp at hi
    | zero =>
      simp at hi; subst hi
      obtain ⟨v,h1,h2,_⟩:=hB.val 0 _ rfl
      obtain ⟨a,cap,ys,U⟩:=h2
      refine ⟨v,h1,PV.of ?_,.inl rfl⟩
      rw [U.val]
      refine .list (.inl rfl) rfl U.le U.pos (.inr U.spot) U.elems U.low (U.vl.later L) (fun i v hi=>⟨U.cell i v hi,fun hw => ?_⟩) .nil
      have hlt:i < cap * sz:=Nat.lt_of_lt_of_le (List.getElem?_eq_some_iff.1 hi).1 (by rw [U.len]; exact Nat.mul_le_mul_right _ U.le)
      exact hw.2 (U.spare i (Nat.zero_le _) hlt).1
  have s:=r.ss.setBox (g':=g.less (ow (.heap b 0))) (w':=w) (ow':=ow.set (.heap b 0) Nobody) (M:=Nought) (cs':=[.list .sh sz es]) r.own hcs hr t (fun _ _ h=>h.elim) (fun b o h=>r.ss.lt b o h.1) rfl rfl (fun b' o _ hb hw=>⟨hw,hX _ _ hb⟩)
    (by have : AV.under.go 0 [AV.list .sh sz es] = true := rfl
        exact this) hnew (fun p b' x h1 h2 hp=>by rw [Own.set_other _ _ (fun e=>h1 0 (by rw [e]; rfl))]; exact hp)
  refine ⟨g.less (ow (.heap b 0)),ow.set (.heap b 0) Nobody,⟨s,⟨fun p b' o hp=>⟨r.own.wr _ _ _ (hset p b' o hp).1,(hset p b' o hp).2⟩,fun p b' o hp=>r.own.box _ _ _ (hset p b' o hp).1,fun p q b' o hp hq=>r.own.one _ _ _ _ (hset p b' o hp).1 (hset q b' o hq).1⟩,
    r.sf.later t (fun _ _ h=>h.elim) (fun _ _ _ _ h=>h) (fun i b' x hp=>by rw [Own.set_other _ _ (by simp)]; exact hp)⟩,⟨t.weaken fun _ _ h=>h.elim,fun b' o hm => .inl ?_,fun b' o hw => ?_,fun _ h => .inl h⟩,rfl,rfl⟩
  · rcases hm with ⟨k1,k2⟩ | ⟨p,hp⟩
    · exact .inl ⟨k1,k2.1⟩
    · exact .inr ⟨p,(hset p b' o hp).1⟩
  · by_cases hx:ow (.heap b 0) b' o
    · exact .inl (.inr ⟨_,hx⟩)
    · exact .inr ⟨hw,hx⟩
theorem dn_model (t:Tgt) (args:List AV) (σ:St) (K:AV→St→Prop) (b sz:Nat) (es:List AV) (h1:σ.heap[b]? = some (.cells [.list .uniq sz es])) (h:ModelW P t args { σ with heap:=σ.heap.set b (.cells [.list .sh sz es]) } K):ModelW P t args σ K:=by
  intro g w ow xs r s hs
  obtain ⟨g1,ow1,r1,W1,e1,e2⟩:=r.dn h1
  refine Runs.mono (h g1 w ow1 xs r1 s (by cases t <;> simpa [Tgt.sem,e2] using hs)) fun rv w' ⟨v,σ',hK,g',ow',hr⟩=>⟨v,σ',hK,g',ow',hr.rel,W1.trans hr.way r.ss.lt,hr.sb.trans e1⟩
theorem kit_model (hn:∀(f:FuncId) (fn:Func),P.funcs[f]? = some fn→fn.name≠"runtime.NumGoroutine"):KitW P (ModelW P) where
  alone:=alone_model
  dn:=dn_model
  srt _ L k ha hz α i f cf h n d S H K h1 h2 h3 h4 h5 h6 h7:=srt_model hn L k ha hz α i f cf h n d S H K h1 h2 h3 h4 h5 h6 h7
  srtN _ L y σ K h1:=srtN_model L y σ K h1
  srI _ L n l S H K h1 h2 h3:=srI_model L n l S H K h1 h2 h3
  srIN _ L σ K h1:=srIN_model L σ K h1
  ins _ k zr bt L h0 es items i fl σ K h1 h2 h3 h4 h5:=ins_model k zr bt L h0 es items i fl σ K h1 h2 h3 h4 h5
  insN _ k zr bt L h0 items fl σ K h2 h3 h4 h5:=insN_model k zr bt L h0 items fl σ K h2 h3 h4 h5
end
end Go.AM
namespace Go.AM
open Go
def DepT (cfg:Cfg) (f:FuncId) (ops:Array Oper) (l:Array Bool) (k:Nat):Prop:=∃j,l.getD j false=true∧isReader cfg f ops j=false∧hangs ops j k=true
def MaskOK (ops:Array Oper) (j m:Nat):Prop:=∀k,m.testBit k=true→∀l:Array Bool,Closed ops l→(∀e,hangsOn ops j e=true→l.getD e false=true)→l.getD k false=true
theorem mask_fold {ops : Array Oper} {j : Nat} {acc : List Nat} (hacc : ∀ i m, acc[i]? = some m → MaskOK ops i m) : ∀ (es : List Edge) (m : Nat), (∀ e ∈ es, Region.binds .any e = true → hangsOn ops j e.on = true) → MaskOK ops j m →
    MaskOK ops j (es.foldl (fun m e=>if Region.binds .any e then m ||| 2 ^ e.on ||| acc.getD e.on 0 else m) m)
  | [],m,_,hm=>hm
  | e :: es,m,he,hm=>by
    rw [List.foldl_cons]
    refine mask_fold hacc es _ (fun e' h'=>he e' (List.mem_cons_of_mem _ h')) ?_
    split
    · rename_i hb
      intro k hk l hc hl
      rw [Nat.testBit_or,Nat.testBit_or,Bool.or_eq_true,Bool.or_eq_true] at hk
      have h1:l.getD e.on false=true:=hl e.on (he e (List.mem_cons_self) hb)
      rcases hk with (hk | hk) | hk
      · exact hm k hk l hc hl
      · rw [Nat.testBit_two_pow,decide_eq_true_eq] at hk
        rw [←hk]; exact h1
      · cases ha:acc[e.on]? with
        | none=>simp [List.getD,ha] at hk
        | some m' =>
          have hk':m'.testBit k=true:=by simpa [List.getD,ha] using hk
          exact hacc _ _ ha k hk' l hc fun e' he'=>hc e.on e' h1 he'
    · exact hm
theorem closeMasks_ok {ops:Array Oper}:∀(os:List Oper) (acc:List Nat),(∀i o,os[i]? = some o→ops[acc.length + i]? = some o)→(∀i m,acc[i]? = some m→MaskOK ops i m)→∀i m,(closeMasks os acc)[i]? = some m→MaskOK ops i m
  | [],acc,_,hacc=>hacc
  | o :: os,acc,ho,hacc=>by
    simp only [closeMasks]
    refine closeMasks_ok os _ (fun i o' hi => ?_) fun i m hi => ?_
    · have:=ho (i + 1) o' (by simpa using hi)
      rw [List.length_append,List.length_singleton,Nat.add_assoc,Nat.add_comm 1 i]
      exact this
    · by_cases hl:i < acc.length
      · rw [List.getElem?_append_left hl] at hi; exact hacc i m hi
      · rw [List.getElem?_append_right (by omega)] at hi
        have hi0:i=acc.length:=by
          have:=(List.getElem?_eq_some_iff.1 hi).1
          simp at this; omega
        subst hi0
        simp only [Nat.sub_self,List.getElem?_cons_zero,Option.some.injEq] at hi
        subst hi
        refine mask_fold hacc _ _ (fun e he hb => ?_) fun k hk=>by simp at hk
        have h0:=ho 0 o rfl
        rw [Nat.add_zero] at h0
        unfold hangsOn
        rw [h0]
        dsimp only
        rw [Array.any_eq_true']
        exact ⟨e,Array.mem_toList_iff.1 he,by simp [hb]⟩
theorem hangs_listed {ops:Array Oper} {l:Array Bool} (hc:Closed ops l) (j k:Nat) (hj:∀e,hangsOn ops j e=true→l.getD e false=true) (h:hangs ops j k=true):l.getD k false=true:=by
  unfold hangs at h
  cases hm:(closeMasks ops.toList [])[j]? with
  | none=>simp [List.getD,hm] at h
  | some m =>
    have h':m.testBit k=true:=by simpa [List.getD,hm] using h
    exact closeMasks_ok ops.toList [] (fun i o hi=>by simpa using hi) (fun i m hi=>by simp at hi) j m hm k h' l hc hj
theorem not_depT {cfg:Cfg} {f:FuncId} {ops:Array Oper} {l:Array Bool} {i:Nat} (hc:Closed ops l) (hi:i∈Region.ready .any ops l):¬DepT cfg f ops (l.setIfInBounds i true) i:=by
  rintro ⟨j,hj,_,hk⟩
  have hu:=ready_unlisted hi
  have h2:l.getD i false=true:=by
    rcases getD_set_cases hj with rfl | hj
    · exact hangs_listed hc _ _ (fun e he=>ready_hangs hi he) hk
    · exact hangs_listed hc _ _ (fun e he=>hc j e hj he) hk
  rw [h2] at hu; cases hu
def ChkT (cfg:Cfg) (f:FuncId) (ops:Array Oper) (chk:List (Nat×(St→Bool))) (L:Array Bool) (s:St):Prop:=∀c∈chk,DepT cfg f ops L c.1∨c.2 s=true
theorem ChkT.less {cfg:Cfg} {f:FuncId} {ops:Array Oper} {chk:List (Nat×(St→Bool))} {L:Array Bool} {i:Nat} (hr:isReader cfg f ops i=true) {s:St} (h:ChkT cfg f ops chk (L.setIfInBounds i true) s):ChkT cfg f ops chk L s:=by
  intro c hc
  rcases h c hc with ⟨j,hj,hn,hk⟩ | h
  · rcases getD_set_cases hj with rfl | hj
    · rw [hr] at hn; cases hn
    · exact .inl ⟨j,hj,hn,hk⟩
  · exact .inr h
def AnyW (C:CallW) (P:Program) (cfg:Cfg) (f:FuncId) (ops:Array Oper) (J:Array Bool→St→Prop) (K:Fr→St→Prop):Nat→Array Bool→Fr→St→Prop
  | 0,listed,fr,σ=>Region.ready .any ops listed=[]∧K fr σ∧J listed σ
  | n + 1,listed,fr,σ=>J listed σ∧(Region.ready .any ops listed=[]→K fr σ) ∧
    ∀i∈Region.ready .any ops listed,stepW C P cfg f ops i fr σ fun fr' σ'=>AnyW C P cfg f ops J K n (listed.setIfInBounds i true) fr' σ'
section
variable {P:Program} {C:CallW} {cfg:Cfg} {f:FuncId} {fr fr' fr1:Fr} {σ σ':St} {ops:Array Oper} {d:Nat} {v:AV} {J J':Array Bool→St→Prop} {K:Fr→St→Prop}
theorem AnyW.here:∀{n:Nat} {listed:Array Bool} {fr:Fr} {σ:St},AnyW C P cfg f ops J K n listed fr σ→J listed σ
  | 0,_,_,_,h=>h.2.2
  | _ + 1,_,_,_,h=>h.1
theorem AnyW.mono (hC:LeC C C):∀{n:Nat} {listed:Array Bool} {fr:Fr} {σ:St},(∀L s,More listed L→J L s→J' L s)→AnyW C P cfg f ops J K n listed fr σ→AnyW C P cfg f ops J' K n listed fr σ
  | 0,l,_,_,hJ,h=>⟨h.1,h.2.1,hJ _ _ (fun _ h=>h) h.2.2⟩
  | _ + 1,l,_,_,hJ,h=>⟨hJ _ _ (fun _ h=>h) h.1,h.2.1,fun i hi =>
    stepW_mono hC (fun _ _ h2=>AnyW.mono hC (fun L s hm=>hJ L s fun x hx=>hm x (More.set l i x hx)) h2) (h.2.2 i hi)⟩
theorem opW_set {o:Oper} {K:AV→Fr→St→Prop} (h:∀x∈o.op.operands.toList,x≠.tmp d):opW C P cfg f o (fr.set d v) σ K↔opW C P cfg f o fr σ fun u fr' σ'=>K u (fr'.set d v) σ':=by
  have S:∀x∈o.op.operands.toList,AM.seen (fr.set d v) x=AM.seen fr x:=fun x hx=>seen_set (h x hx)
  unfold opW
  split
  · rename_i t x ho
    rw [S x (by rw [ho]; simp [Op.operands])]
  · rename_i x ho
    rw [S x (by rw [ho]; simp [Op.operands])]
  · rename_i x ho
    rw [S x (by rw [ho]; simp [Op.operands])]
  · split
    · rename_i c g hcall
      obtain ⟨ho,hcal⟩:=callOf_some hcall
      have hg:g∈o.op.operands.toList:=by rw [ho]; simp [Op.operands,Call.operands,hcal]
      have hargs:∀x∈c.args.toList,x≠.tmp d:=fun x hx=>h x (by rw [ho]; simp [Op.operands,Call.operands,hcal]; exact .inr (Array.mem_toList_iff.1 hx))
      rw [S g hg,takenAll_set hargs]
    · rw [evOp_set h]
      cases evOp noC P cfg f o fr σ with
      | none=>exact Iff.rfl
      | some r=>exact Iff.rfl
theorem stepW_put {j : Nat} {o : Oper} {x : Option Tmp} (hj : ops[j]? = some o) (h : ∀ d, x = some d → d ∉ o.looksAt ops) (h' : ∀ d, x = some d → o.dst ≠ some d) {K : Fr → St → Prop} :
    stepW C P cfg f ops j (putA x v fr) σ K↔stepW C P cfg f ops j fr σ fun fr' σ'=>K (putA x v fr') σ':=by
  cases x with
  | none=>exact Iff.rfl
  | some d =>
    have hd:=h d rfl
    have hd':=h' d rfl
    have hop:∀x∈o.op.operands.toList,x≠.tmp d:=fun x hx e=>hd (List.mem_append_left _ (List.mem_filterMap.2 ⟨.tmp d,e▸hx,rfl⟩))
    have put:∀(u:AV) (fr:Fr),putA o.dst u (fr.set d v)=(putA o.dst u fr).set d v:=by
      intro u fr
      cases hod:o.dst with
      | none=>rfl
      | some e =>
        have hne:d≠e:=fun h=>hd' (by rw [hod,h])
        simp only [putA]
        rw [List.set_comm _ _ hne]
    unfold stepW
    rw [hj]
    show (match guardA ops (fr.set d v) o with
      | some true=>opW C P cfg f o (settle (fr.set d v) (settled o.op)) σ fun v fr' σ'=>K (putA o.dst v fr') σ'
      | some false=>K (putA o.dst (.tup []) (fr.set d v)) σ
      | none=>False)↔(match guardA ops fr o with
      | some true=>opW C P cfg f o (settle fr (settled o.op)) σ fun u fr' σ'=>K ((putA o.dst u fr').set d v) σ'
      | some false=>K ((putA o.dst (.tup []) fr).set d v) σ
      | none=>False)
    rw [guardA_put fun e _ he=>by rw [he]; exact hd]
    cases guardA ops fr o with
    | none=>exact Iff.rfl
    | some b =>
      cases b with
      | false=>dsimp only; rw [put]
      | true =>
        dsimp only
        rw [settle_set fun x hx=>hop x (settled_operands hx),opW_set hop]
        simp only [put]
theorem opW_calmer (hC:LeC C C) {o:Oper} {K:AV→Fr→St→Prop} (h:opW C P cfg f o fr σ K):opW C P cfg f o fr σ fun u fr' σ'=>Calmer fr fr'∧K u fr' σ':=by
  unfold opW at h ⊢
  split at h
  · split at h
    · split at h
      · exact ⟨Calmer.refl _,h⟩
      · exact h.elim
    · exact ⟨Calmer.refl _,h⟩
    · exact h.elim
  · split at h
    · split at h
      · exact ⟨Calmer.refl _,h⟩
      · split at h
        · exact ⟨h.1,fun k=>⟨Calmer.refl _,h.2.1 k⟩,fun e he hs=>⟨Calmer.refl _,h.2.2 e he hs⟩⟩
        · exact h.elim
    · exact h.elim
  · split at h
    · split at h
      · split at h
        · refine ⟨h.1,?_⟩
          have h2:=h.2
          split at h2
          · exact ⟨Calmer.refl _,h2⟩
          · exact h2.elim
        · exact h.elim
      · exact h.elim
    · exact h.elim
  · split at h
    · split at h
      · exact hC _ _ _ _ _ (fun v s k=>⟨takenAll_calmer _ _,k⟩) h
      · exact hC _ _ _ _ _ (fun v s k=>⟨takenAll_calmer _ _,k⟩) h
      · exact h.elim
    · split at h
      · rename_i he
        exact ⟨evOp_calmer he,h⟩
      · exact h.elim
theorem stepW_agree (hC:LeC C C) {j:Nat} {o:Oper} {T:List Tmp} {K:Fr→St→Prop} (hj:ops[j]? = some o) (hT:∀d,o.dst=some d→d∉T) (h:stepW C P cfg f ops j fr σ K):stepW C P cfg f ops j fr σ fun fr' σ'=>Agree T fr fr'∧K fr' σ':=by
  have put:∀(u:AV) (fr0:Fr),Calmer fr fr0→Agree T fr (putA o.dst u fr0):=by
    intro u fr0 hc
    cases hod:o.dst with
    | none=>exact ⟨hc.1,fun t _ ht=>hc.2 t ht⟩
    | some d =>
      refine ⟨by simp [putA,hc.1],fun t hm ht => ?_⟩
      have hne:t≠d:=fun e=>hT d hod (e▸hm)
      simp only [putA]
      rw [getD_set _ _ _ _ hne]
      exact hc.2 t ht
  unfold stepW at h ⊢
  rw [hj] at h ⊢
  dsimp only at h ⊢
  split at h
  · exact opW_mono hC (fun _ _ _ k=>⟨put _ _ ((settle_calmer _ _).trans k.1),k.2⟩) (opW_calmer hC h)
  · exact ⟨put _ _ (Calmer.refl _),h⟩
  · exact h.elim
theorem opW_reader {o : Oper} {K : AV → Fr → St → Prop} (hr : readerOp cfg f o = true) : opW C P cfg f o fr σ K ↔ match evOp noC P cfg f o fr σ with
    | some (v,fr',σ')=>K v fr' σ'
    | none=>False:=by
  unfold opW
  split
  · rename_i ho; unfold readerOp at hr; rw [ho] at hr; cases hr
  · rename_i ho; unfold readerOp at hr; rw [ho] at hr; cases hr
  · rename_i ho; unfold readerOp at hr; rw [ho] at hr; cases hr
  · split
    · rename_i c g hcall
      obtain ⟨ho,hcal⟩:=callOf_some hcall
      unfold readerOp at hr; rw [ho] at hr; dsimp only at hr; rw [hcal] at hr; cases hr
    · exact Iff.rfl
theorem readV_stepW {i:Nat} {o:Oper} {K:Fr→St→Prop} (hi:ops[i]? = some o) (h:readV noC P cfg f ops i fr σ=some v) (hK:K (putA o.dst v fr) σ):stepW C P cfg f ops i fr σ K:=by
  unfold readV at h
  unfold stepW
  rw [hi] at h ⊢
  dsimp only at h ⊢
  cases hg:guardA ops fr o with
  | none=>rw [hg] at h; cases h
  | some b =>
    rw [hg] at h
    cases b with
    | false=>dsimp only at h ⊢; injection h with h; rw [h]; exact hK
    | true =>
      dsimp only at h ⊢
      split at h
      case isFalse=>cases h
      rename_i hc
      simp only [Bool.and_eq_true,List.all_eq_true] at hc
      rw [settle_calm _ fun x hx=>hc.2 x (settled_operands hx),opW_reader hc.1]
      obtain ⟨⟨u,fr',σ'⟩,h1,h2⟩:=map_some h
      obtain ⟨rfl,rfl⟩:=reader_state hc.1 hc.2 h1
      dsimp only at h2; subst h2
      rw [h1]; exact hK
theorem AnyW.first (hC : LeC C C) {i : Nat} {oi : Oper} (hi : ops[i]? = some oi) : ∀ (n : Nat) (listed : Array Bool) (fr : Fr) (σ : St), Closed ops listed →
      (∀j oj,ops[j]? = some oj→j≠i→listed.getD j true=false→(∀e∈oj.after,Region.binds .any e=true→e.on≠i)→oi.apart ops oj=true) →
      i∈Region.ready .any ops listed→(∀L s,¬DepT cfg f ops L i→J L s→readV noC P cfg f ops i fr s=some v)→(∀L s,J (L.setIfInBounds i true) s→J L s)→AnyW C P cfg f ops J K n (listed.setIfInBounds i true) (putA oi.dst v fr) σ→AnyW C P cfg f ops J K (n + 1) listed fr σ:=by
  intro n
  induction n with
  | zero =>
    intro listed fr σ hcl _ hr hy hJ H
    refine ⟨hJ _ _ H.here,fun h=>(by rw [h] at hr; cases hr),fun j hj => ?_⟩
    by_cases hji:j=i
    · subst hji; exact readV_stepW hi (hy _ σ (not_depT hcl hr) H.here) H
    · have:=ready_mono hj hji
      rw [H.1] at this
      cases this
  | succ n ih =>
    intro listed fr σ hcl hfree hr hy hJ H
    refine ⟨hJ _ _ H.here,fun h=>(by rw [h] at hr; cases hr),fun j hj => ?_⟩
    by_cases hji:j=i
    · subst hji; exact readV_stepW hi (hy _ σ (not_depT hcl hr) H.here) H
    · have hstep:=H.2.2 j (ready_mono hj hji)
      obtain ⟨hjun,oj,hoj,hall⟩:=mem_ready.1 hj
      have hnot:∀e∈oj.after,Region.binds .any e=true→e.on≠i:=fun e he hb heq=>by
        have h1:=hall e he hb
        have h0:=(mem_ready.1 hr).1
        rw [heq] at h1
        rcases Nat.lt_or_ge i listed.size with h' | h'
        · simp [h'] at h0 h1; rw [h0] at h1; cases h1
        · simp [Array.getElem?_eq_none h'] at h1
      obtain ⟨a1,a2,a3⟩:=Oper.apart_spec (hfree j oj hoj hji hjun hnot)
      rw [stepW_put hoj a1 fun d hd=>a2 d hd] at hstep
      have hfree' : ∀ k ok, ops[k]? = some ok → k ≠ i → (listed.setIfInBounds j true).getD k true = false →
          (∀e∈ok.after,Region.binds .any e=true→e.on≠i)→oi.apart ops ok=true:=fun k ok hk hki hun hno=>by
        refine hfree k ok hk hki ?_ hno
        by_cases hjk:j=k
        · subst hjk; exact hjun
        · rw [getD_set_ne true hjk] at hun; exact hun
      refine stepW_mono hC (fun fr3 σ3 h3 => ?_) (stepW_agree hC hoj (T:=oi.looksAt ops) (fun d hd=>a3 d hd) hstep)
      obtain ⟨hag,h2⟩:=h3
      refine ih (listed.setIfInBounds j true) fr3 σ3 (hcl.set hj) hfree' (ready_mono hr (Ne.symm hji)) (fun L s hL hs=>readV_agree hi hag (hy L s hL hs)) hJ ?_
      rw [Array.setIfInBounds_comm _ _ hji]
      exact h2
def TreeP (cfg:Cfg) (f:FuncId) (ops:Array Oper):PT→Bool→Array Bool→Prop
  | .done,top,listed=>top=true∧Region.ready .any ops listed=[]
  | .rd i rest,top,listed=>top=true∧i∈Region.ready .any ops listed∧isReader cfg f ops i=true ∧
    (∀oi,ops[i]? = some oi→∀j oj,ops[j]? = some oj→j≠i→listed.getD j true=false→(∀e∈oj.after,Region.binds .any e=true→e.on≠i)→oi.apart ops oj=true) ∧
    TreeP cfg f ops rest true (listed.setIfInBounds i true)
  | .mv i rest alt,top,listed=>(top=true→∀j∈Region.ready .any ops listed,j=i∨j∈alt.alts)∧i∈Region.ready .any ops listed∧isReader cfg f ops i=false ∧
    TreeP cfg f ops rest true (listed.setIfInBounds i true)∧TreeP cfg f ops alt false listed
  | .stop,top,_=>top=false
theorem planW_any (hC : LeC C C) : ∀ (t : PT) (top : Bool) (m : Nat) (listed : Array Bool) (fr : Fr) (σ : St) (chk : List (Nat × (St → Bool))), t.depth ≤ (if top then m else m + 1) → TreeP cfg f ops t top listed → Closed ops listed → (∀ c ∈ chk, c.2 σ = true) →
    planW C P cfg f ops t fr σ chk K→(top=true→AnyW C P cfg f ops (ChkT cfg f ops chk) K m listed fr σ) ∧
      (top=false→∀j∈t.alts,stepW C P cfg f ops j fr σ fun fr' σ'=>AnyW C P cfg f ops (ChkT cfg f ops chk) K m (listed.setIfInBounds j true) fr' σ')
  | .done,top,m,listed,fr,σ,chk,_,hp,_,hc,h=>by
    refine ⟨fun _ => ?_,fun _ j hj=>by simp [PT.alts] at hj⟩
    cases m with
    | zero=>exact ⟨hp.2,h,fun c hm => .inr (hc c hm)⟩
    | succ m=>exact ⟨fun c hm => .inr (hc c hm),fun _=>h,fun i hi=>by rw [hp.2] at hi; cases hi⟩
  | .rd i rest,top,m,listed,fr,σ,chk,hm,hp,hcl,hc,h=>by
    refine ⟨fun ht => ?_,fun _ j hj=>by simp [PT.alts] at hj⟩
    subst ht
    obtain ⟨_,hready,hr,hfr,hrest⟩:=hp
    cases m with
    | zero=>simp [PT.depth] at hm
    | succ m =>
      have hm':rest.depth≤m:=by simpa [PT.depth] using hm
      simp only [planW] at h
      cases hv:readV noC P cfg f ops i fr σ with
      | none=>rw [hv] at h; exact h.elim
      | some v =>
        rw [hv] at h
        dsimp only at h
        have ho:∃o,ops[i]? = some o∧readerOp cfg f o=true:=by
          have hr':=hr
          unfold isReader at hr'
          split at hr'
          · rename_i o ho; exact ⟨o,ho,hr'⟩
          · cases hr'
        obtain ⟨o,ho,hro⟩:=ho
        have hdst:dstOf ops i=o.dst:=by simp [dstOf,ho]
        rw [hdst] at h
        have hfree:=hfr o ho
        by_cases hd:depA ops i fr=true
        · simp only [hd,if_true] at h
          have H:=(planW_any hC rest true m _ _ _ _ (by simpa using hm') hrest (hcl.set hready) (fun c hcm=>by
            rcases List.mem_cons.1 hcm with rfl | hcm
            · simp only [hv,sameV,beq_refl]
            · exact hc c hcm) h).1 rfl
          refine AnyW.mono hC (fun L s _ hs c hcm=>hs c (List.mem_cons_of_mem _ hcm)) (AnyW.first hC ho m listed fr σ hcl hfree hready (fun L s hL hs => ?_) (fun L s hs=>hs.less hr) H)
          rcases hs _ (List.mem_cons_self) with hdep | hsame
          · exact (hL hdep).elim
          · dsimp only at hsame
            unfold sameV at hsame
            split at hsame
            · rename_i u hu; rw [hu,beq_eq hsame]
            · cases hsame
        · have hd':depA ops i fr=false:=by simpa using hd
          simp only [hd',Bool.false_eq_true,if_false] at h
          have H:=(planW_any hC rest true m _ _ _ _ (by simpa using hm') hrest (hcl.set hready) hc h).1 rfl
          exact AnyW.first hC ho m listed fr σ hcl hfree hready (fun L s _ _=>readV_nondep ho hro hd' hv s) (fun L s hs=>hs.less hr) H
  | .mv i rest alt,top,m,listed,fr,σ,chk,hm,hp,hcl,hc,h=>by
    obtain ⟨hcov,hready,hr,hrest,halt⟩:=hp
    simp only [planW] at h
    have hlt:i < listed.size:=by
      have h0:=(mem_ready.1 hready).1
      rcases Nat.lt_or_ge i listed.size with h' | h'
      · exact h'
      · simp [Array.getElem?_eq_none h'] at h0
    have branch:∀m,rest.depth≤m→alt.depth≤m + 1→∀j∈(PT.mv i rest alt).alts,stepW C P cfg f ops j fr σ fun fr' σ'=>AnyW C P cfg f ops (ChkT cfg f ops chk) K m (listed.setIfInBounds j true) fr' σ':=by
      intro m h1 h2 j hj
      rcases List.mem_cons.1 hj with rfl | hj
      · refine stepW_mono hC (fun fr' σ' hk => ?_) h.1
        have H:=(planW_any hC rest true m _ _ _ _ (by simpa using h1) hrest (hcl.set hready) (fun c hcm=>List.all_eq_true.1 hk.1 c hcm) hk.2).1 rfl
        refine AnyW.mono hC (fun L s hmore hJ c hcm => ?_) H
        by_cases hh:hangs ops j c.1=true
        · exact .inl ⟨j,hmore j (by simp [hlt]),hr,hh⟩
        · exact hJ c (List.mem_filter.2 ⟨hcm,by simpa using hh⟩)
      · exact (planW_any hC alt false m _ _ _ _ (by simpa using h2) halt hcl hc h.2).2 rfl j hj
    refine ⟨fun ht => ?_,fun ht => ?_⟩
    · subst ht
      cases m with
      | zero =>
        simp only [PT.depth,if_true] at hm
        omega
      | succ m =>
        simp only [PT.depth,if_true] at hm
        refine ⟨fun c hm => .inr (hc c hm),fun he=>(by rw [he] at hready; cases hready),fun j hj=>branch m (by omega) (by omega) j ?_⟩
        rcases hcov rfl j hj with rfl | hj
        · exact List.mem_cons_self
        · exact List.mem_cons_of_mem _ hj
    · subst ht
      simp only [PT.depth,Bool.false_eq_true,if_false] at hm
      exact branch m (by omega) (by omega)
  | .stop,top,m,listed,fr,σ,chk,_,hp,_,hc,h=>⟨fun ht=>(by simp only [TreeP] at hp; rw [ht] at hp; cases hp),fun _ j hj=>(by simp [PT.alts] at hj)⟩
theorem tree_fast:∀(t:PT) (top:Bool) (mask:Nat) (listed:Array Bool),SameL ops.size mask listed→treeFast (ops.toList.map (infoOf cfg f ops)) t top mask=true→TreeP cfg f ops t top listed
  | .done,top,mask,listed,hs,h=>by
    simp only [treeFast,Bool.and_eq_true] at h
    refine ⟨h.1,?_⟩
    apply List.eq_nil_iff_forall_not_mem.2
    intro j hj
    obtain ⟨_,o,ho,_⟩:=mem_ready.1 hj
    have:=allFrom_spec h.2 j (infoOf cfg f ops o) (by rw [List.getElem?_map,Array.getElem?_toList,ho]; rfl)
    rw [Nat.zero_add,(info_ready hs rfl ho).2 hj] at this
    cases this
  | .rd i rest,top,mask,listed,hs,h=>by
    simp only [treeFast,nth_get,List.getElem?_map,Array.getElem?_toList,Bool.and_eq_true] at h
    obtain ⟨htop,h⟩:=h
    cases ho:ops[i]? with
    | none=>rw [ho] at h; cases h
    | some oi =>
      rw [ho] at h
      simp only [Option.map_some,Bool.and_eq_true] at h
      obtain ⟨⟨⟨h1,h2⟩,h3⟩,h4⟩:=h
      have hi:i < ops.size:=(Array.getElem?_eq_some_iff.1 ho).1
      have hrd:isReader cfg f ops i=(infoOf cfg f ops oi).rd:=by simp [isReader,ho,infoOf]
      refine ⟨htop,(info_ready hs rfl ho).1 h1,by rw [hrd]; exact h2,fun o' ho' j oj hj hne hun hno => ?_,tree_fast rest true _ _ (hs.set hi) h4⟩
      rw [ho] at ho'; injection ho' with ho'; subst ho'
      have:=allFrom_spec h3 j (infoOf cfg f ops oj) (by rw [List.getElem?_map,Array.getElem?_toList,hj]; rfl)
      rw [Nat.zero_add] at this
      simp only [Bool.or_eq_true,beq_iff_eq] at this
      rcases this with ((h4 | h4) | h4) | h4
      · exact (hne h4).elim
      · have hjl:j < listed.size:=by rw [hs.size]; exact (Array.getElem?_eq_some_iff.1 hj).1
        rw [hs.bit] at h4
        simp [hjl] at h4 hun
        rw [h4] at hun; cases hun
      · rw [show (infoOf cfg f ops oj).edges=maskOf ((oj.after.toList.filter (Region.binds .any)).map (·.on)) from rfl,mask_bit] at h4
        obtain ⟨e,he,hei⟩:=List.mem_map.1 h4
        obtain ⟨h5,h6⟩:=List.mem_filter.1 he
        exact (hno e (Array.mem_toList_iff.1 h5) h6 hei).elim
      · exact info_apart h4
  | .mv i rest alt,top,mask,listed,hs,h=>by
    simp only [treeFast,nth_get,List.getElem?_map,Array.getElem?_toList,Bool.and_eq_true] at h
    obtain ⟨⟨⟨hcov,h⟩,h3⟩,h4⟩:=h
    cases ho:ops[i]? with
    | none=>rw [ho] at h; cases h
    | some oi =>
      rw [ho] at h
      simp only [Option.map_some,Bool.and_eq_true] at h
      obtain ⟨h1,h2⟩:=h
      have hi:i < ops.size:=(Array.getElem?_eq_some_iff.1 ho).1
      have hrd:isReader cfg f ops i=(infoOf cfg f ops oi).rd:=by simp [isReader,ho,infoOf]
      refine ⟨fun htop j hj => ?_,(info_ready hs rfl ho).1 h1,by rw [hrd]; simpa using h2,tree_fast rest true _ _ (hs.set hi) h3,tree_fast alt false _ _ hs h4⟩
      subst htop
      simp only [Bool.not_true,Bool.false_or] at hcov
      obtain ⟨_,o,hjo,_⟩:=mem_ready.1 hj
      have:=allFrom_spec hcov j (infoOf cfg f ops o) (by rw [List.getElem?_map,Array.getElem?_toList,hjo]; rfl)
      rw [Nat.zero_add,(info_ready hs rfl hjo).2 hj] at this
      simpa using this
  | .stop,top,mask,listed,hs,h=>by
    simp only [treeFast] at h
    simpa [TreeP] using h
end
end Go.AM
namespace Go.AM
open Go
section
variable {P:Program} {C:CallW} {cfg:Cfg} {tr:Trees} {f:FuncId} {g g' g0 g1 g2:G} {w w' w0:World} {ow ow' ow0 ow1:Own} {σ σ':St} {fr fr':Fr} {tm:Array Value} {a:Act} {ops:Array Oper} {Q:Exit→Act→World→Prop}
theorem anyW_wp {rd : Option Nat} {J : Array Bool → St → Prop} {K : Fr → St → Prop} : ∀ (n : Nat) {listed : Array Bool} {fr : Fr} {σ : St} {g : G} {w : World} {ow : Own} {a : Act}, AnyW (ModelW P) P cfg f ops J K n listed fr σ → Rel g w ow fr a.tmps σ →
    (∀fr' σ',K fr' σ'→∀a' w',Post g w ow a fr' σ' a' w'→Q .normal a' w')→wpAnyIn (FW rd) 0 P .any ops Q n listed a w
  | 0,listed,fr,σ,g,w,ow,a,h,r,hQ=>⟨h.1,hQ _ _ h.2.1 a w (Post.here r rfl)⟩
  | n + 1,listed,fr,σ,g,w,ow,a,h,r,hQ=>by
    obtain ⟨_,h1,h2⟩:=h
    refine ⟨fun he=>hQ _ _ (h1 he) a w (Post.here r rfl),fun i hi => ?_⟩
    refine stepW_wp (h2 i hi) r fun fr1 σ1 h3 a1 w1 hp => ?_
    obtain ⟨g1,ow1,r1,W1,hd⟩:=hp.out
    exact anyW_wp n h3 r1 fun fr' σ' k a' w' hp'=>hQ _ _ k a' w' (hp'.after W1 r.ss.lt r1.own hd)
def LoopIn (F:Fence) (n:Nat) (P:Program) (c:Code) (Q:Exit→Act→World→Prop) (a:Act) (w:World):Prop :=
  ∀(b:Frame) (k:List Item) (cs:List Frame),b.roundOf=F.round→F.fn b.fn→F.room (cs.length + 1 + n) →
    ∃e a' w',Q e a' w'∧ArrivesIn (Machine.fenced P F) P (lone (b.atR a (.code c :: .inLoop c :: k)) cs w) b k cs e a' w'
theorem loopIn_step {F:Fence} {n:Nat} {c:Code} (h:c.wpIn F n P (Exit.then (LoopIn F n P c Q) Q) a w):LoopIn F n P c Q a w:=by
  intro b k cs hro hb hr
  obtain ⟨e,a₁,w₁,hq,harr⟩:=h b (.inLoop c :: k) cs hro hb hr
  cases e with
  | normal =>
    obtain ⟨e₂,a₂,w₂,hq₂,harr₂⟩:=hq b k cs hro hb hr
    exact ⟨e₂,a₂,w₂,hq₂,.of_steps (StepsIn.trans harr (.one (fenced_calm hb hr rfl) stepR_inLoop)) harr₂⟩
  | exit id=>exact ⟨_,a₁,w₁,hq,.pass (x := .inLoop c) rfl (fun _ _ => .inl (by simp)) harr⟩
  | goto l=>exact ⟨_,a₁,w₁,hq,.pass (x := .inLoop c) rfl (fun _ _ => .inl (by simp)) harr⟩
  | ret=>exact ⟨_,a₁,w₁,hq,.pass (x := .inLoop c) rfl (fun _ _ => .inl (by simp)) harr⟩
  | panic ch=>exact ⟨_,a₁,w₁,hq,.pass (x := .inLoop c) rfl (fun _ _ => .inl (by simp)) harr⟩
  | outgrown=>exact ⟨_,a₁,w₁,hq,.pass (x := .inLoop c) rfl (fun _ _ => .inl (by simp)) harr⟩
theorem loopIn_wp {F:Fence} {n:Nat} {c:Code} (h:LoopIn F n P c Q a w):(Code.loop c).wpIn F n P Q a w:=by
  intro b k cs hro hb hr
  obtain ⟨e,a',w',hq,harr⟩:=h b k cs hro hb hr
  exact ⟨e,a',w',hq,.of_steps (.one (fenced_calm hb hr rfl) stepR_loop) harr⟩
def BodyW (P:Program) (cfg:Cfg) (tr:Trees) (rd:Option Nat) (f:FuncId) (c:Code):Prop :=
  ∀(k:Nat) (fr:Fr) (σ:St) (K:KC),codeW (ModelW P) P cfg tr rd.isSome f k c fr σ K→∀(g:G) (w:World) (ow:Own) (a:Act) (Q:Exit→Act→World→Prop),Rel g w ow fr a.tmps σ →
    (∀e fr' σ',K e fr' σ'→∀a' w',Post g w ow a fr' σ' a' w'→Q e.toExit a' w')→c.wpIn (FW rd) 0 P Q a w
theorem loopW_wp {rd : Option Nat} {c : Code} {k : Nat} (hb : BodyW P cfg tr rd f c) {mask : List Bool} {n0 : Nat} {K : KC} {a0 : Act} (hn0 : g0.sb.length = n0) (hlt0 : ∀ b o, g0.wr b o → b < w0.heap.size)
    (hQ:∀e fr' σ',K e fr' σ'→∀a' w',Post g0 w0 ow0 a0 fr' σ' a' w'→Q e.toExit a' w') (h:loopW (codeW (ModelW P) P cfg tr rd.isSome f k c) mask n0 fr σ K) (r:Rel g w ow fr a.tmps σ) (W:Way g0 w0 ow0 g w ow) (hd:Marks g w w0.heap.size a0.defers a.defers):(Code.loop c).wpIn (FW rd) 0 P Q a w:=by
  refine loopIn_wp (h (fun fr σ=>∀g w ow a,Rel g w ow fr a.tmps σ→Way g0 w0 ow0 g w ow→Marks g w w0.heap.size a0.defers a.defers→LoopIn (FW rd) 0 P c Q a w) (fun fr σ hu hbody g w ow a r W hd => ?_) g w ow a r W hd)
  have rk:=(r.keep mask).cut n0 hu
  have Wk:=W.cut hn0
  refine loopIn_step (hb k _ _ _ hbody (g.cut n0) w ow a _ rk fun e fr1 σ1 hk a' w' hp => ?_)
  have hp':Post g0 w0 ow0 a0 fr1 σ1 a' w':=hp.after Wk hlt0 rk.own hd
  cases e with
  | normal =>
    obtain ⟨g',ow',h1,h2,h3⟩:=hp'.out
    exact hk g' w' ow' a' h1 h2 h3
  | exit id=>exact hQ _ _ _ hk a' w' hp'
  | ret=>exact hQ _ _ _ hk a' w' hp'
theorem rangeFuncW_wp (hn : ∀ (f : FuncId) (fn : Func), P.funcs[f]? = some fn → fn.name ≠ "runtime.NumGoroutine") {gop : Operand} {ps : Array Tmp} {azz bd : Code} {K : KC}
    (h:match AM.seen fr gop with
    | .fn (.func h) first captured=>hasBody P h=true ∧
      ModelW P (.fn h) (first ++ [.yield σ.heap.length] ++ captured) { σ with heap:=σ.heap ++ [.loop { fid:=f,fr:=fr.map lasting,params:=ps.toList,assign:=azz,body:=bd,ready:=true,pending:=none }] }
        fun _ σ'=>match σ'.heap[σ.heap.length]? with
          | some (.loop l)=>(l.ready || l.pending.isSome)=true∧K (l.pending.getD .normal) fr { σ' with heap:=σ'.heap.set σ.heap.length .dead }
          | _=>False
    | _=>False) (r:Rel g w ow fr a.tmps σ) (hQ:∀e fr' σ',K e fr' σ'→∀a' w',Post g w ow a fr' σ' a' w'→Q e.toExit a' w'):(Code.rangeFunc gop ps azz bd).wpIn (FW none) 0 P Q a w:=by
  split at h
  case h_2=>exact h.elim
  rename_i hf first captured hg
  obtain ⟨hbody,hcall⟩:=h
  refine wpIn_rangeFunc fun fn _ => ?_
  obtain ⟨r1,W1⟩:=r.other_new (.deferred (some []))
  let q:Loop:={ state := .ready,pending:=none,fn,tmps:=a.tmps,params:=ps,assign:=azz,body:=bd,defers:=w.heap.size }
  obtain ⟨g2,r2,W2,hb2,hsb2,hwr2⟩:=r1.newLoop (l:={ fid:=f,fr:=fr.map lasting,params:=ps.toList,assign:=azz,body:=bd,ready:=true,pending:=none }) (q:=q) rfl rfl rfl rfl rfl (lasting_VL r1.sf) (under_mem.2 fun x hx=>by obtain ⟨y,_,rfl⟩:=List.mem_map.1 hx; exact lasting_low y)
  have hsz:(w.alloc (.deferred (some []))).heap.size=w.heap.size + 1:=by show (w.heap.push _).size=_; simp
  rw [hsz] at hb2
  have hV:=r2.sf.seen gop
  rw [hg] at hV
  generalize hgv:a.eval gop=gv at hV
  cases hV with
  | @fn _ _ _ xs ys _ _ v1 v2 _ =>
    have rc:=callee_rel (O:=fun _=>Nobody) (vs:=[.yield σ.heap.length]) (vv:=[.func (.yield (w.heap.size + 1)) #[] #[]]) r2 v1 v2 rfl (fun i x hi=>by
      cases i with
      | zero=>simp at hi; subst hi; exact ⟨_,rfl,PV.of (.yield hb2 .nil)⟩
      | succ i=>simp at hi) (fun _=>Free.nobody _ _) (fun _ _ _ _ h=>h.elim)
    have hrun:=hcall _ _ _ _ rc _ rfl
    have hent:∀(args:Array Value) (w:World),(callFunc hf args).run P w = .ok (.enter hf args) w:=by
      intro args w
      have hb':hasBody P hf=true:=by simpa using hbody
      unfold hasBody at hb'
      split at hb'
      · rename_i fn' hfn
        have h1:=hn _ _ hfn
        cases hfb:fn'.body with
        | none=>rw [hfb] at hb'; cases hb'
        | some c=>simp [callFunc,Sem.run,hfn,hfb,h1]
      · cases hb'
    have eargs:(xs.toList ++ [Value.func (.yield (w.heap.size + 1)) #[] #[]] ++ ys.toList).toArray=xs ++ #[.func (.yield (w.heap.size + 1)) #[] #[]] ++ ys:=by
      apply Array.ext'; simp
    rw [eargs] at hrun
    refine ⟨w.heap.size + 1,[markOf w.heap.size],(w.alloc (.deferred (some []))).alloc (.loop q),{ target := .fn (.func hf) ys,args:=xs ++ #[.func (.yield (w.heap.size + 1)) #[] #[]] },(w.alloc (.deferred (some []))).alloc (.loop q),hf,xs ++ #[.func (.yield (w.heap.size + 1)) #[] #[]] ++ ys,(w.alloc (.deferred (some []))).alloc (.loop q),run_enterLoop_outer fn a.tmps ps azz bd,?_,fun f' _=>FW_fn none f',?_,FW_depth none 0,?_⟩
    · simp only [resolve,hgv,map_one]; rfl
    · exact hent _ _
    · rcases hrun with ⟨f',args',e1,e2⟩ | ⟨v',w',e1,_⟩ | ⟨l',fn',tm',as',bd',e1,_⟩
      case inr.inl=>rw [hent] at e1; cases e1
      case inr.inr=>rw [hent] at e1; cases e1
      rw [hent] at e1
      simp only [Result.ok.injEq,Next.enter.injEq,and_true] at e1
      obtain ⟨rfl,rfl⟩:=e1
      refine FW_calls (Calls.mono e2 fun e w3 he => ?_)
      cases e with
      | returned rv =>
        obtain ⟨v3,σ2,hK3,g3,ow3,hret⟩:=he
        split at hK3
        case h_2=>exact hK3.elim
        rename_i l hl
        obtain ⟨hst,hKl⟩:=hK3
        obtain ⟨ow4,ho⟩:=ret_out (dst:=none) r2 (fun _=>Free.nobody _ _) (fun _ _ _ h=>h) (fun _ _ _ h=>h.elim) hret
        have r4:Rel g3 w3 ow4 fr a.tmps σ2:=ho.rel
        obtain ⟨b',q3,hb3,hq3⟩:=r4.ss.loops _ _ hl
        have hb3':b'=w.heap.size + 1:=Option.some.inj (hb3.symm.trans (ho.tr.hb _ _ hb2))
        subst hb3'
        have hnb:q3.state≠.busy:=by
          rw [hq3.state]
          unfold loopState
          split
          · simp
          · rename_i hr
            split
            · rename_i hpn; simp [hr,hpn] at hst
            · simp
        obtain ⟨r5,W5⟩:=r4.killLoop (q':={ q3 with state := .exhausted }) hl hb3 hq3
        have W:Way g w ow g3 (w3.putObj (w.heap.size + 1) (.loop { q3 with state := .exhausted })) ow4 :=
          ((W1.trans W2 r.ss.lt).trans ho.way r.ss.lt).trans W5 r.ss.lt
        have hmark:Marks g3 (w3.putObj (w.heap.size + 1) (.loop { q3 with state := .exhausted })) w.heap.size a.defers ([markOf w.heap.size] ++ a.defers):=by
          have m0:Marks g (w.alloc (.deferred (some []))) w.heap.size a.defers ([markOf w.heap.size] ++ a.defers):=by
            refine ⟨[w.heap.size],rfl,by simp,fun b hb => ?_⟩
            rw [List.mem_singleton.1 hb]
            exact ⟨Nat.le_refl _,World.alloc_heap_new w _,fun o hw=>absurd (r.ss.lt _ _ hw) (Nat.lt_irrefl _)⟩
          exact ((m0.along r1.own W2).along r2.own ho.way).along r4.own W5
        have post:Post g w ow a fr { σ2 with heap:=σ2.heap.set σ.heap.length .dead } { a with defers:=[markOf w.heap.size] ++ a.defers } (w3.putObj (w.heap.size + 1) (.loop { q3 with state := .exhausted })):=⟨⟨g3,ow4,r5,W,hmark⟩⟩
        have key : ∀ (j : Option Code) (a' : Act) (W : World), j = l.pending.map Ex.toCode → Post g w ow a fr { σ2 with heap := σ2.heap.set σ.heap.length .dead } a' W →
            (match j with
             | none=>Q .normal a' W
             | some c=>c.wpIn (FW none) 0 P Q a' W):=by
          intro j a' W hj hp
          subst hj
          have hq':=hQ _ _ _ hKl _ _ hp
          cases hpd:l.pending with
          | none=>rw [hpd] at hq'; exact hq'
          | some x =>
            rw [hpd] at hq'
            cases x with
            | normal=>exact wpIn_skip hq'
            | exit id=>exact wpIn_exit hq'
            | ret=>exact wpIn_ret hq'
        exact ⟨q3.pending,_,run_endLoop hq3.obj hnb,key _ _ _ hq3.pending post⟩
      | _=>exact he.elim
theorem codeW_wp {rd:Option Nat} (hn:∀(f:FuncId) (fn:Func),P.funcs[f]? = some fn→fn.name≠"runtime.NumGoroutine") (hm:P.follows .mixedOrders=true):∀(c:Code),treesIn cfg tr f c=true→BodyW P cfg tr rd f c
  | .skip,_=>fun k fr σ K h g w ow a Q r hQ=>wpIn_skip (hQ _ _ _ h a w (Post.here r rfl))
  | .region id ops false,_=>fun k fr σ K h g w ow a Q r hQ=>by
    simp only [codeW] at h
    exact wpIn_region (opsW_wp _ h r fun fr' σ' hk=>hQ _ _ _ hk)
  | .region id ops true,hp=>fun k fr σ K h g w ow a Q r hQ=>by
    simp only [codeW] at h
    obtain ⟨hst,h⟩:=h
    simp only [treesIn] at hp
    generalize htr:tr f id=t at h hst hp
    have hp':decide (t.depth≤ops.size)=true∧treeFast (ops.toList.map (infoOf cfg f ops)) t true 0=true:=by
      cases t with
      | stop=>simp [isStop] at hst
      | _=>simpa using hp
    have hd:=of_decide_eq_true hp'.1
    have hany:=(planW_any (ModelW.le P) t true ops.size _ _ _ _ (by simpa using hd) (tree_fast t true 0 _ (same_none _) hp'.2) (closed_none _ _) (fun c hc=>by cases hc) h).1 rfl
    refine wpIn_region_any hm (anyW_wp _ hany (r.heap rfl) fun fr' σ' hk a' w' hpost=>hQ _ _ _ hk a' w' ?_)
    exact Post.after (g1:=g) (w0:={ w with drawn:=w.drawn + 1 }) (ow1:=ow) (a1:=a) (Way.heap rfl) r.ss.lt r.own (Marks.none _ _ _ _) hpost
  | .seq x y,hp=>fun k fr σ K h g w ow a Q r hQ=>by
    simp only [treesIn,Bool.and_eq_true] at hp
    simp only [codeW] at h
    refine wpIn_seq (codeW_wp hn hm x hp.1 k fr σ _ h g w ow a _ r fun e1 fr1 σ1 hk a1 w1 hpost => ?_)
    cases e1 with
    | normal =>
      obtain ⟨g1,ow1,r1,W1,hd⟩:=hpost.out
      exact codeW_wp hn hm y hp.2 k fr1 σ1 K hk g1 w1 ow1 a1 Q r1 fun e fr' σ' hk' a' w' hp'=>hQ e fr' σ' hk' a' w' (hp'.after W1 r.ss.lt r1.own hd)
    | exit id=>exact hQ _ _ _ hk a1 w1 hpost
    | ret=>exact hQ _ _ _ hk a1 w1 hpost
  | .cond c x y,hp=>fun k fr σ K h g w ow a Q r hQ=>by
    simp only [treesIn,Bool.and_eq_true] at hp
    simp only [codeW] at h
    have hc:=r.sf.opnd c
    split at h
    · rename_i b hb
      rw [hb] at hc
      cases b with
      | true=>exact wpIn_cond_true (V_bool (PV.plain hc rfl)) (codeW_wp hn hm x hp.1 k fr σ K (h.1 rfl) g w ow a Q r hQ)
      | false=>exact wpIn_cond_false (V_bool (PV.plain hc rfl)) (codeW_wp hn hm y hp.2 k fr σ K (h.2 rfl) g w ow a Q r hQ)
    · exact h.elim
  | .block id x,hp=>fun k fr σ K h g w ow a Q r hQ=>by
    simp only [treesIn] at hp
    simp only [codeW] at h
    refine wpIn_block (codeW_wp hn hm x hp id fr σ _ h g w ow a _ r fun e1 fr1 σ1 hk a1 w1 hpost => ?_)
    cases e1 with
    | normal=>exact hQ _ _ _ hk a1 w1 hpost
    | exit id' =>
      show if id'=id then Q .normal a1 w1 else Q (.exit id') a1 w1
      simp only [blockK] at hk
      by_cases he:id'=id
      · rw [if_pos he] at hk ⊢; exact hQ _ _ _ hk a1 w1 hpost
      · rw [if_neg he] at hk ⊢; exact hQ _ _ _ hk a1 w1 hpost
    | ret=>exact hQ _ _ _ hk a1 w1 hpost
  | .loop x,hp=>fun k fr σ K h g w ow a Q r hQ=>by
    simp only [treesIn] at hp
    simp only [codeW] at h
    exact loopW_wp (codeW_wp hn hm x hp) r.ss.slen r.ss.lt hQ h r (Way.refl _ _ _) (Marks.none _ _ _ _)
  | .exit id,_=>fun k fr σ K h g w ow a Q r hQ=>wpIn_exit (hQ _ _ _ h a w (Post.here r rfl))
  | .ret,_=>fun k fr σ K h g w ow a Q r hQ=>wpIn_ret (hQ _ _ _ h a w (Post.here r rfl))
  | .label _,_=>fun k fr σ K h=>by simp only [codeW] at h
  | .goto _,_=>fun k fr σ K h=>by simp only [codeW] at h
  | .rangeFunc gop ps azz bd,hp=>fun k fr σ K h g w ow a Q r hQ=>by
    simp only [codeW] at h
    obtain ⟨hrd,h⟩:=h
    have hrd':rd=none:=by cases rd <;> simp_all
    subst hrd'
    exact rangeFuncW_wp hn h r hQ
  | .scope ..,_=>fun k fr σ K h=>by simp only [codeW] at h
  | .refuse _,_=>fun k fr σ K h=>by simp only [codeW] at h
theorem treesOK_body (hp:treesOK P cfg tr=true) {fn:Func} {c:Code} (hf:P.funcs[f]? = some fn) (hb:fn.body=some c):treesIn cfg tr f c=true:=by
  have hl:f < P.funcs.size:=(Array.getElem?_eq_some_iff.1 hf).1
  have:=List.all_eq_true.1 hp f (List.mem_range.2 hl)
  rw [hf] at this
  dsimp only at this
  rw [hb] at this
  exact this
theorem bodyW_runs (hm : P.follows .mixedOrders = true) (hp : treesOK P cfg tr = true) (hn : ∀ (f : FuncId) (fn : Func), P.funcs[f]? = some fn → fn.name ≠ "runtime.NumGoroutine") {args : List AV} {K : AV → St → Prop} (h : bodyW (ModelW P) P cfg tr f args σ K)
    {xs:Array Value} (r:Rel g w ow args xs σ):Runs P (callFunc f xs) w fun rv w'=>∃v σ',K v σ'∧∃g' ow',Ret g w ow v σ' rv g' w' ow':=by
  unfold bodyW at h
  split at h
  case h_2=>exact h.elim
  rename_i fn hf
  split at h
  case h_2=>exact h.elim
  rename_i c hb
  have hent:(callFunc f xs).run P w = .ok (.enter f xs) w:=by
    have:=hn f fn hf
    simp [callFunc,Sem.run,hf,hb,this]
  refine .inl ⟨f,xs,hent,(callsIn_wide (n:=0)).1 (callsIn_of_wp_marks hf hb trivial ?_)⟩
  have hsz:=r.sf.size
  have r0:Rel g w ow (args ++ List.replicate (fn.ntmps - args.length) .undef) (xs ++ Array.replicate (fn.ntmps - xs.size) undef) σ:=by
    refine ⟨r.ss,r.own,by simp [hsz],fun i x hi => ?_⟩
    by_cases hl:i < args.length
    · rw [List.getElem?_append_left hl] at hi
      obtain ⟨u,h1,h2⟩:=r.sf.val i x hi
      exact ⟨u,by rw [Array.getElem?_append_left (by rw [hsz]; exact hl)]; exact h1,h2⟩
    · rw [List.getElem?_append_right (by omega)] at hi
      have hi':=List.getElem?_eq_some_iff.1 hi
      obtain ⟨h1,h2⟩:=hi'
      rw [List.getElem_replicate] at h2; subst h2
      refine ⟨undef,?_,PV.undef _⟩
      rw [List.length_replicate] at h1
      rw [Array.getElem?_append_right (by omega),Array.getElem?_eq_getElem (by rw [Array.size_replicate]; omega),Array.getElem_replicate]
  refine codeW_wp (rd:=none) hn hm c (treesOK_body hp hf hb) 0 _ _ _ h g w ow _ _ r0 fun e fr1 σ1 hk a' w' hpost => ?_
  have ends : ∀ {v : AV} {σ' : St}, K v σ' → finish P σ.stk.length fn fr1 σ1 = some (v, σ') →
      LeavesInM (FW none) 0 P fn a'.tmps (fun e w'=>match e with | .returned v_1=>∃v σ',K v σ'∧∃g' ow',Ret g w ow v σ' v_1 g' w' ow' | _=>False) a'.defers .returning w':=by
    intro v σ' hkv h
    obtain ⟨g',ow',r1,W1,bs,hds,hnd,hbs⟩:=hpost.out
    rw [List.append_nil] at hds
    rw [hds]
    refine leaves_marks bs hnd (fun b hb=>⟨(hbs b hb).1,(hbs b hb).2.1⟩) r1 W1 fun w'' r2 W2 => ?_
    obtain ⟨rv,g2,ow2,h1,h2⟩:=finish_run r2 W2 r.ss.slen h
    exact ⟨rv,h1,v,σ',hkv,g2,ow2,h2⟩
  unfold finishW at hk
  cases e with
  | exit id=>exact hk.elim
  | normal =>
    dsimp only at hk
    split at hk
    · rename_i v σ' hfin; exact ends hk hfin
    · exact hk.elim
  | ret =>
    dsimp only at hk
    split at hk
    · rename_i v σ' hfin; exact ends hk hfin
    · exact hk.elim
theorem roundW_runs (hm : P.follows .mixedOrders = true) (hn : ∀ (f : FuncId) (fn : Func), P.funcs[f]? = some fn → fn.name ≠ "runtime.NumGoroutine") {h b : Nat} {args : List AV} {K : AV → St → Prop} (he : roundW (ModelW P) P cfg tr h args σ K)
    {xs:Array Value} (r:Rel g w ow args xs σ) (hb:g.hb[h]? = some b):Runs P (Instr.yield b xs) w fun rv w'=>∃v σ',K v σ'∧∃g' ow',Ret g w ow v σ' rv g' w' ow':=by
  unfold roundW at he
  split at he
  case h_2=>exact he.elim
  rename_i l hl
  obtain ⟨hlen,hpa,hpb,he⟩:=he
  obtain ⟨b0,q,hb0,hq⟩:=r.ss.loops _ _ (loopOf_some hl)
  have:b0=b:=Option.some.inj (hb0.symm.trans hb)
  subst this
  have hsz:xs.size=q.params.size:=by rw [r.sf.size,hlen,←hq.params]; simp
  refine .inr (.inr ⟨b0,q.fn,_,q.assign,q.body,run_yield hq.obj hsz,roundIn_of_wpIn trivial ?_⟩)
  have hfold:VL g w (setAll l.params (args.map AV.look) l.fr) ((q.params.zip xs).foldl (fun tmps (t,a)=>tmps.setIfInBounds t a) q.tmps).toList:=by
    have:=setAll_V q.params.toList (args.map AV.look) xs.toList (look_VL r.sf) hq.fr
    rw [←Array.toList_zip,Array.foldl_toList,hq.params] at this
    exact this
  have r0:=r.mem hfold
  rw [hq.assign]
  refine codeW_wp (rd:=some b0) hn hm l.assign hpa 0 _ _ _ he g w ow.mem { tmps:=_,defers:=[] } _ r0 fun e0 fr1 σ1 hk0 a1 w1 hp1 => ?_
  obtain ⟨he0,hk1⟩:=hk0
  subst he0
  split at hk1
  case h_2=>exact hk1.elim
  rename_i l1 hl1
  obtain ⟨hrdy,hpnd,hbd⟩:=hk1
  obtain ⟨g1,ow1,r1,W1,_⟩:=hp1.out
  obtain ⟨b1,q1,hb1,hq1⟩:=r1.ss.loops _ _ (loopOf_some hl1)
  have:b1=b0:=Option.some.inj (hb1.symm.trans (W1.tr.hb _ _ hb))
  subst this
  have hq1r:q1.state = .ready:=by rw [hq1.state]; unfold loopState; rw [hrdy]; rfl
  refine ⟨_,run_beginRound hq1.obj hq1r,?_⟩
  obtain ⟨r2,W2⟩:=r1.setLoop (l':={ l1 with ready:=false }) (q':={ q1 with state := .busy }) (loopOf_some hl1) hb1 hq1 hq1.params hq1.assign hq1.body (by unfold loopState; simp [hpnd]) hq1.pending rfl rfl
  rw [hq.body]
  refine codeW_wp (rd:=some b1) hn hm l.body hpb 0 _ _ _ hbd g1 _ ow1 a1 _ r2 fun e fr2 σ2 hk2 a2 w2 hp2 => ?_
  split at hk2
  case h_2=>exact hk2.elim
  rename_i l2 hl2
  obtain ⟨g3,ow3,r3,W3,_⟩:=hp2.out
  obtain ⟨b3,q3,hb3,hq3⟩:=r3.ss.loops _ _ (loopOf_some hl2)
  have:b3=b1:=Option.some.inj (hb3.symm.trans (W3.tr.hb _ _ hb1))
  subst this
  have Wmem:Way g w ow g w ow.mem:=Way.only ow.mem_sub
  have W13:Way g w ow g3 w2 ow3:=((Wmem.trans W1 r.ss.lt).trans W2 r.ss.lt).trans W3 r.ss.lt
  have fin : ∀ (jump : Option Ex), (jump.isNone = decide (e = .normal)) → (jump = if e = .normal then none else some e) →
      ∃v w',(Instr.endRound b3 (jump.map Ex.toCode)).run P w2 = .ok v w'∧∃v' σ',K v' σ'∧∃g' ow',Ret g w ow v' σ' v g' w' ow':=by
    intro jump hj hj'
    refine ⟨_,_,run_endRound (jump.map Ex.toCode) hq3.obj,_,_,hk2,?_⟩
    have hjn:(jump.map Ex.toCode).isNone=decide (e = .normal):=by rw [←hj]; cases jump <;> rfl
    obtain ⟨r4,W4⟩:=r3.setLoop (l':={ l2 with ready:=decide (e = .normal),pending:=if e = .normal then none else some e }) (q':={ q3 with state:=if (jump.map Ex.toCode).isNone then .ready else .done,pending:=jump.map Ex.toCode }) (loopOf_some hl2) hb3 hq3 hq3.params hq3.assign hq3.body
      (by rw [hjn]; unfold loopState; by_cases hen:e = .normal <;> simp [hen]) (by rw [hj']) rfl rfl
    have r5:=r4.mem (fr':=[.bool (e = .normal)]) (tm' := #[.bool (jump.map Ex.toCode).isNone]) (by rw [hjn]; exact .sc (.bool (decide (e = .normal))) .nil)
    have W5:Way g w ow g3 (w2.putObj b3 (.loop { q3 with state:=if (jump.map Ex.toCode).isNone then .ready else .done,pending:=jump.map Ex.toCode })) ow3.mem:=(W13.trans W4 r.ss.lt).trans (Way.only ow3.mem_sub) r.ss.lt
    exact ⟨g3.cut σ.stk.length,ow3.mem,r5.cut σ.stk.length rfl,W5.cut r.ss.slen,W5.sb_cut r.ss.slen⟩
  cases e with
  | normal=>exact fin none rfl rfl
  | exit id=>exact fin (some (.exit id)) rfl rfl
  | ret=>exact fin (some .ret) rfl rfl
theorem model_closed (hm : P.follows .mixedOrders = true) (hp : treesOK P cfg tr = true) (hn : ∀ (f : FuncId) (fn : Func), P.funcs[f]? = some fn → fn.name ≠ "runtime.NumGoroutine") (hpr : PrimOK P cfg) :
    ∀t args σ K,unfoldW (ModelW P) P cfg tr t args σ K→ModelW P t args σ K:=by
  intro t args σ K h g w ow xs r s hs
  unfold unfoldW at h
  cases t with
  | fn f =>
    simp only [Tgt.sem,Option.some.injEq] at hs
    subst hs
    dsimp only at h
    split at h
    · rename_i p hp'
      split at h
      · rename_i v σ' hv
        exact Runs.mono (hpr f p hp' args σ v σ' hv g w ow xs r) fun rv w' x=>⟨v,σ',h,x⟩
      · exact h.elim
    · exact bodyW_runs hm hp hn h r
  | yield k =>
    simp only [Tgt.sem] at hs
    obtain ⟨b,hb,rfl⟩:=map_some hs
    exact roundW_runs hm hn h r hb
theorem Ret.weak {v b:AV} {rv:Value} (h:Ret g w ow v σ' rv g' w' ow') (hl:∀b o,g.wr b o→b < w.heap.size) (hb:b=v∨WkL [v.sh] [b]):∃g'' ow'',Ret g w ow b σ' rv g'' w' ow'':=by
  rcases hb with rfl | hb
  · exact ⟨g',ow',h⟩
  · obtain ⟨g1,ow1,r1,W1,h1,_⟩:=h.rel.weakAt (i:=0) rfl hb
    exact ⟨g1,ow1,r1,h.way.trans W1 hl,h1.trans h.sb⟩
theorem ModelW.closed (hm:P.follows .mixedOrders=true) (hp:treesOK P cfg tr=true) (hn:∀(f:FuncId) (fn:Func),P.funcs[f]? = some fn→fn.name≠"runtime.NumGoroutine") (hpr:PrimOK P cfg):ClosedW P cfg tr (ModelW P) where
  toKitW:=kit_model hn
  unf:=model_closed hm hp hn hpr
  arg t args i a b σ K hi hw h g w ow xs r s hs:=by
    obtain ⟨g1,ow1,r1,W1,h1,h2⟩:=r.weakAt hi hw
    refine Runs.mono (h g1 w ow1 xs r1 s (by cases t <;> simpa [Tgt.sem,h2] using hs)) fun rv w' ⟨v,σ',hK,g',ow',hr⟩=>⟨v,σ',hK,g',ow',hr.rel,W1.trans hr.way r.ss.lt,hr.sb.trans h1⟩
  res t args σ K h g w ow xs r s hs:=by
    refine Runs.mono (h g w ow xs r s hs) fun rv w' ⟨v,σ',⟨b,hb,hK⟩,g',ow',hr⟩ => ?_
    obtain ⟨g2,ow2,h2⟩:=hr.weak r.ss.lt hb
    exact ⟨b,σ',hK,g2,ow2,h2⟩
theorem EvW_sound (hm : P.follows .mixedOrders = true) (hp : treesOK P cfg tr = true) (hn : ∀ (f : FuncId) (fn : Func), P.funcs[f]? = some fn → fn.name ≠ "runtime.NumGoroutine") (hpr : PrimOK P cfg)
    {t:Tgt} {args:List AV} {σ:St} {K:AV→St→Prop} (h:EvW P cfg tr t args σ K):ModelW P t args σ K:=h _ (ModelW.closed hm hp hn hpr)
theorem callsW_alone {fn : Func} (hf : P.funcs[f]? = some fn) (hname : fn.name ≠ "runtime.NumGoroutine") (hb : fn.body.isSome = true) {args : List AV} {x : Sc} (h : ModelW P (.fn f) args ⟨[], []⟩ fun v _ => v = .s x) (w : World) {xs : Array Value} (hl : xs.size = args.length)
    (hx:∀(i:Nat) (a:AV),args[i]? = some a→∃v,xs[i]? = some v∧V G.none w a v):Calls P f xs w fun e w'=>e = .returned x.toV∧RowKit.Below w.heap.size w w':=by
  have hrun:=h G.none w Own.none xs (rel_none w hl hx) _ rfl
  have hent:(callFunc f xs).run P w = .ok (.enter f xs) w:=by
    have hb':fn.body.isNone=false:=by cases hbb:fn.body <;> simp_all
    simp [callFunc,Sem.run,hf,hname]
    cases hbb:fn.body with
    | none=>simp [hbb] at hb
    | some c=>simp [Sem.run]
  rcases hrun with ⟨f',args',e1,hc⟩ | ⟨rv,w',he,_⟩ | ⟨l,fn',tm',as',bd',he,_⟩
  · rw [hent] at e1
    simp only [Result.ok.injEq,Next.enter.injEq,and_true] at e1
    obtain ⟨rfl,rfl⟩:=e1
    refine Calls.mono hc fun e w' he => ?_
    cases e with
    | returned rv =>
      obtain ⟨v,σ',rfl,g',ow',hr⟩:=he
      obtain ⟨u,h1,h2⟩:=hr.rel.sf.val 0 (.s x) rfl
      simp at h1; subst h1
      have:=(show V g' w' (.s x) rv from h2).sc_inv
      subst this
      exact ⟨rfl,hr.way.tr.env.1,hr.way.tr.env.2.1,hr.way.tr.env.2.2.1,hr.way.tr.size,fun b hbl=>hr.way.tr.obj b hbl fun o hm=>may_none hm⟩
    | _=>exact he.elim
  · rw [hent] at he; cases he
  · rw [hent] at he; cases he
end
end Go.AM
