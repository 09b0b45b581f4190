import Derived.Test.YtadcnggbhkpcbaaM10
set_option linter.unusedSimpArgs false
set_option linter.unusedVariables false
namespace Go.AM
open Go
open AV renaming undef → uu
set_option maxRecDepth 20000
theorem siftDown_size (hi first:Nat):∀(m root:Nat) (d:Array Int),hi - root≤m→(Sort.siftDown ltI hi first root d).size=d.size:=by
  intro m
  induction m with
  | zero=>intro root d h; rw [Sort.siftDown,dif_pos (by omega)]
  | succ m ih =>
    intro root d h
    rw [Sort.siftDown]
    by_cases hc:2 * root + 1≥hi
    · rw [dif_pos hc]
    rw [dif_neg hc]
    split
    · split
      · rfl
      · split
        · rw [ih _ _ (by omega),swp_size]
        · rfl
    · split
      · rfl
      · rw [ih _ _ (by omega),swp_size]
def SrtT (C:CallW) (f:FuncId) (X:Array Int→Nat→Nat→Array Int):Prop:=∀(n:Nat) (d:Array Int) (a b:Nat) S H (K:AV→St→Prop),S[n]? = some (flat iA d)→a < b→b≤d.size→d.size≤2305843009213693952→K (.tup []) ⟨S.set n (flat iA (X d a b)),H⟩→C (.fn f) [.row (.stk n) 0 d.size d.size,.s (.int .i64 a),.s (.int .i64 b)] ⟨S,H⟩ K
set_option maxHeartbeats 16000000 in
theorem reverseRange_spec {C:CallW} (hC:LeC C C) (P:Program):∀(n:Nat) (d:Array Int) (a b:Nat) S H (K:AV→St→Prop),S[n]? = some (flat iA d)→a < b→b≤d.size→d.size≤2305843009213693952→K (.tup []) ⟨S.set n (flat iA (Sort.reverseRange d a b)),H⟩→runL C P C_slices_reverseRangeOrdered_int64 [.row (.stk n) 0 d.size d.size,.s (.int .i64 a),.s (.int .i64 b)] ⟨S,H⟩ K:=by
  intro n d a b S H K hS hab hbd hdl hK
  have hn:=slt hS
  unfold Sort.reverseRange at hK
  generalize hX:Sort.reverseLoop a (b - 1) d=X at hK
  have hw0:IntKind.i64.wrap ((b:Int) - 1)=((b - 1:Nat):Int):=by rw [wrap_i64 (by omega) (by omega)]; omega
  simp only [C_slices_reverseRangeOrdered_int64,A_,simprocAttr,ne_eq,U_slices_reverseRangeOrdered_int64.1,hw0]
  refine loop_rule hC (α:=Nat×Nat×Array Int) (fun x=>x.2.1 - x.1) (fun x=>[.row (.stk n) 0 d.size d.size,uu,uu,uu,uu,uu,.s (.int .i64 x.1),.s (.int .i64 x.2.1),uu,uu,uu,uu,uu,uu,uu,uu,uu,uu,uu,uu,uu,uu,uu,uu,uu,uu,uu,uu,uu,uu,uu,uu]) (fun x=>S.set n (flat iA x.2.2)) (fun _=>H) (fun x=>x.1≤d.size∧x.2.1 < d.size∧x.2.2.size=d.size∧X=Sort.reverseLoop x.1 x.2.1 x.2.2) (a,b - 1,d) ⟨by dsimp only; omega,by dsimp only; omega,rfl,hX.symm⟩ (by simp [keep,zm]) (by rw [sself hS]; simp) rfl (fun x _=>by simp [AV.under,AV.under.go,hn]) ?_
  rintro ⟨i,j,e⟩ ⟨hi,hj,hes,hinv⟩ ih
  dsimp only at hi hj hes hinv ih ⊢
  have hSe:(S.set n (flat iA e))[n]? = some (flat iA e):=sset hS
  rw [Sort.reverseLoop] at hinv
  by_cases hij:i < j
  case neg =>
    have h':¬((i:Int) < (j:Int)):=by omega
    rw [if_neg hij] at hinv
    rw [hinv] at hK
    simp only [A_,simprocAttr,ne_eq,U_slices_reverseRangeOrdered_int64.1,h']
    exact hK
  have h':((i:Int) < (j:Int)):=by omega
  rw [if_pos hij] at hinv
  have hw1:IntKind.i64.wrap ((i:Int) + 1)=((i + 1:Nat):Int):=by rw [wrap_i64 (by omega) (by omega)]; omega
  have hw2:IntKind.i64.wrap ((j:Int) - 1)=((j - 1:Nat):Int):=by rw [wrap_i64 (by omega) (by omega)]; omega
  have x1:∀kk:IntKind,indexAddrL (.sl 1) (.row (.stk n) 0 d.size d.size) (.s (.int kk (i:Int)))=some (.ptr (.stk n) i):=fun kk=>ixi (by omega)
  have x2:∀kk:IntKind,indexAddrL (.sl 1) (.row (.stk n) 0 d.size d.size) (.s (.int kk (j:Int)))=some (.ptr (.stk n) j):=fun kk=>ixi (by omega)
  have r1:=ird (H:=H) hSe (i:=i) (by omega)
  have r2:=ird (H:=H) hSe (i:=j) (by omega)
  have w1:=iwr (H:=H) (x:=e[j]!) hSe (i:=i) (by omega)
  have hS2:(S.set n (flat iA (e.setIfInBounds i e[j]!)))[n]? = some (flat iA (e.setIfInBounds i e[j]!)):=sset hS
  have w2:=iwr (H:=H) (x:=e[i]!) hS2 (i:=j) (by simp; omega)
  rw [List.set_set] at w1 w2
  simp only [A_,simprocAttr,ne_eq,U_slices_reverseRangeOrdered_int64.1,h',x1,x2,r1,r2,w1,w2,hw1,hw2]
  exact ih (i + 1,j - 1,Sort.swp e i j) _ _ _ (by dsimp only; omega) ⟨by dsimp only; omega,by dsimp only; omega,by rw [swp_size]; exact hes,hinv⟩ (by simp [keep,zm]) (by rw [List.take_of_length_le]; rfl; simp) rfl
set_option maxHeartbeats 16000000 in
theorem heapSort_spec {C:CallW} (hC:LeC C C) (P:Program) {c:Nat→FuncId} (h0:SiftS C (c 0)):∀(n:Nat) (d:Array Int) (a b:Nat) S H (K:AV→St→Prop),S[n]? = some (flat iA d)→a < b→b≤d.size→d.size≤2305843009213693952→K (.tup []) ⟨S.set n (flat iA (Sort.heapSort ltI d a b)),H⟩→runL C P (C_slices_heapSortOrdered_int64 c) [.row (.stk n) 0 d.size d.size,.s (.int .i64 a),.s (.int .i64 b)] ⟨S,H⟩ K:=by
  intro n d a b S H K hS hab hbd hdl hK
  have hn:=slt hS
  unfold Sort.heapSort at hK
  have hw0:IntKind.i64.wrap ((b:Int) - (a:Int))=((b - a:Nat):Int):=by rw [wrap_i64 (by omega) (by omega)]; omega
  have hw1:IntKind.i64.wrap (((b - a:Nat):Int) - 1)=((b - a - 1:Nat):Int):=by rw [wrap_i64 (by omega) (by omega)]; omega
  have hw2:IntKind.i64.wrap (((b - a - 1:Nat):Int).tdiv 2)=((((b - a - 1) / 2 + 1:Nat):Int) - 1):=by
    rw [show ((b - a - 1:Nat):Int).tdiv 2=(((b - a - 1) / 2:Nat):Int) from rfl,wrap_i64 (by omega) (by omega)]; omega
  generalize hhi:b - a=hi at *
  generalize hk0:(hi - 1) / 2 + 1=k0 at *
  simp only [C_slices_heapSortOrdered_int64,A_,simprocAttr,ne_eq,(U_slices_heapSortOrdered_int64 _).1,hw0,hw1,hw2]
  have hhs:a + hi≤d.size:=by omega
  have hk1:k0≤hi:=by omega
  refine loop_rule hC (α:=Nat×Array Int) (fun x=>x.1) (fun x=>[.row (.stk n) 0 d.size d.size,uu,uu,uu,uu,uu,.s (.int .i64 a),.s (.int .i64 0),.s (.int .i64 hi),.s (.int .i64 ((x.1:Int) - 1)),uu,uu,uu,uu,uu,uu,uu,uu,uu,uu,uu,uu,uu,uu,uu,uu,uu,uu,uu,uu,uu,uu,uu,uu,uu,uu,uu,uu,uu,uu,uu,uu,uu,uu,uu,uu,uu,uu,uu,uu,uu,uu,uu,uu,uu,uu]) (fun x=>S.set n (flat iA x.2)) (fun _=>H) (fun x=>x.1≤k0∧x.2.size=d.size∧Sort.heapBuild ltI hi a k0 d=Sort.heapBuild ltI hi a x.1 x.2) (k0,d) ⟨Nat.le_refl _,rfl,rfl⟩ (by simp [keep,zm]) (by rw [sself hS]; simp) rfl (fun x _=>by simp [AV.under,AV.under.go,hn]) ?_
  rintro ⟨k,e⟩ ⟨hk,hes,hinv⟩ ih
  dsimp only at hk hes hinv ih ⊢
  have hSe:(S.set n (flat iA e))[n]? = some (flat iA e):=sset hS
  cases k with
  | succ k =>
    have h':((0:Int)≤((k + 1:Nat):Int) - 1)=True:=eq_true (by omega)
    have e1:(((k + 1:Nat):Int) - 1)=((k:Nat):Int):=by omega
    have h'':((0:Int)≤(k:Int))=True:=eq_true (by omega)
    have e2:IntKind.i64.wrap ((k:Int) - 1)=(k:Int) - 1:=wrap_i64 (by omega) (by omega)
    simp only [A_,simprocAttr,ne_eq,(U_slices_heapSortOrdered_int64 _).1,h',e1,h'']
    rw [show d.size=e.size from hes.symm]
    refine h0 n e k hi a _ _ _ hSe (by omega) (by omega) (by omega) ?_
    rw [List.set_set]
    simp only [A_,simprocAttr,ne_eq,(U_slices_heapSortOrdered_int64 _).1,e2]
    refine ih (k,Sort.siftDown ltI hi a k e) _ _ _ (by dsimp only; omega) ⟨by dsimp only; omega,by rw [siftDown_size hi a _ _ _ (Nat.le_refl _)]; exact hes,by rw [hinv]; rfl⟩ (by simp [keep,zm,hes]) (by rw [List.take_of_length_le]; simp) rfl
  | zero =>
    have h':((0:Int)≤((0:Nat):Int) - 1)=False:=eq_false (by omega)
    have h'':((0:Int)≤0 - 1)=False:=eq_false (by omega)
    have h3:((0:Int)≤-1)=False:=eq_false (by omega)
    rw [hinv] at hK
    simp only [Sort.heapBuild] at hK
    have hw3:IntKind.i64.wrap ((hi:Int) - 1)=((hi:Int) - 1):=wrap_i64 (by omega) (by omega)
    simp only [A_,simprocAttr,ne_eq,(U_slices_heapSortOrdered_int64 _).1,h',h'',h3,hw3]
    clear ih hinv
    generalize hX:Sort.heapPop ltI a hi e=X at hK
    refine loop_rule hC (α:=Nat×Array Int) (fun x=>x.1) (fun x=>[.row (.stk n) 0 d.size d.size,uu,uu,uu,uu,uu,.s (.int .i64 a),.s (.int .i64 0),uu,uu,.s (.int .i64 ((x.1:Int) - 1)),uu,uu,uu,uu,uu,uu,uu,uu,uu,uu,uu,uu,uu,uu,uu,uu,uu,uu,uu,uu,uu,uu,uu,uu,uu,uu,uu,uu,uu,uu,uu,uu,uu,uu,uu,uu,uu,uu,uu,uu,uu,uu,uu,uu,uu]) (fun x=>S.set n (flat iA x.2)) (fun _=>H) (fun x=>x.1≤hi∧x.2.size=d.size∧X=Sort.heapPop ltI a x.1 x.2) (hi,e) ⟨Nat.le_refl _,hes,hX.symm⟩ (by simp [keep,zm]) (by rw [List.take_of_length_le]; simp) rfl (fun x _=>by simp [AV.under,AV.under.go,hn]) ?_
    rintro ⟨k,g⟩ ⟨hk2,hgs,hinv⟩ ih
    dsimp only at hk2 hgs hinv ih ⊢
    have hSg:(S.set n (flat iA g))[n]? = some (flat iA g):=sset hS
    cases k with
    | zero =>
      rw [hinv] at hK
      simp only [A_,simprocAttr,ne_eq,(U_slices_heapSortOrdered_int64 _).1,h',h'',h3]
      exact hK
    | succ k =>
      have h':((0:Int)≤((k + 1:Nat):Int) - 1)=True:=eq_true (by omega)
      have e1:(((k + 1:Nat):Int) - 1)=((k:Nat):Int):=by omega
      have h'':((0:Int)≤(k:Int))=True:=eq_true (by omega)
      have e2:IntKind.i64.wrap ((k:Int) - 1)=(k:Int) - 1:=wrap_i64 (by omega) (by omega)
      have e3:IntKind.i64.wrap ((a:Int) + (k:Int))=((a + k:Nat):Int):=by rw [wrap_i64 (by omega) (by omega)]; omega
      have x1:∀kk:IntKind,indexAddrL (.sl 1) (.row (.stk n) 0 d.size d.size) (.s (.int kk (a:Int)))=some (.ptr (.stk n) a):=fun kk=>ixi (by omega)
      have x2:∀kk:IntKind,indexAddrL (.sl 1) (.row (.stk n) 0 d.size d.size) (.s (.int kk ((a + k:Nat):Int)))=some (.ptr (.stk n) (a + k)):=fun kk=>ixi (by omega)
      have r1:=ird (H:=H) hSg (i:=a) (by omega)
      have r2:=ird (H:=H) hSg (i:=a + k) (by omega)
      have w1:=iwr (H:=H) (x:=g[a + k]!) hSg (i:=a) (by omega)
      have hS2:(S.set n (flat iA (g.setIfInBounds a g[a + k]!)))[n]? = some (flat iA (g.setIfInBounds a g[a + k]!)):=sset hS
      have w2:=iwr (H:=H) (x:=g[a]!) hS2 (i:=a + k) (by simp; omega)
      rw [List.set_set] at w1 w2
      simp only [A_,simprocAttr,ne_eq,(U_slices_heapSortOrdered_int64 _).1,h',e1,h'',e3,x1,x2,r1,r2,w1,w2]
      rw [show d.size=(Sort.swp g a (a + k)).size by rw [swp_size]; exact hgs.symm]
      have hS3:(S.set n (flat iA (Sort.swp g a (a + k))))[n]? = some (flat iA (Sort.swp g a (a + k))):=sset hS
      refine h0 n (Sort.swp g a (a + k)) 0 k a _ _ _ hS3 (by rw [swp_size]; omega) (by omega) (by rw [swp_size]; omega) ?_
      rw [List.set_set]
      simp only [A_,simprocAttr,ne_eq,(U_slices_heapSortOrdered_int64 _).1,e2]
      refine ih (k,Sort.siftDown ltI k a 0 (Sort.swp g a (a + k))) _ _ _ (by dsimp only; omega) ⟨by dsimp only; omega,by rw [siftDown_size k a _ _ _ (Nat.le_refl _),swp_size]; exact hgs,by rw [hinv]; rfl⟩ (by simp [keep,zm,swp_size,hgs]) (by rw [List.take_of_length_le]; simp) rfl
end Go.AM
namespace Go.AM
open Go
set_option maxRecDepth 20000
def swB (k:Nat):List AV:=[.s (.int .i64 k)]
def Ord2S (C:CallW) (f:FuncId):Prop:=∀(n m:Nat) (d:Array Int) (a b sw:Nat) S H (K:AV→St→Prop),S[n]? = some (flat iA d)→S[m]? = some (swB sw)→a < d.size→b < d.size→sw≤1000→K (.tup [.s (.int .i64 (Sort.order2 ltI d a b sw).1),.s (.int .i64 (Sort.order2 ltI d a b sw).2.1)]) ⟨S.set m (swB (Sort.order2 ltI d a b sw).2.2),H⟩→C (.fn f) [.row (.stk n) 0 d.size d.size,.s (.int .i64 a),.s (.int .i64 b),.ptr (.stk m) 0] ⟨S,H⟩ K
def MedS (C:CallW) (f:FuncId):Prop:=∀(n m:Nat) (d:Array Int) (a b c sw:Nat) S H (K:AV→St→Prop),n≠m→S[n]? = some (flat iA d)→S[m]? = some (swB sw)→a < d.size→b < d.size→c < d.size→sw≤900→K (.s (.int .i64 (Sort.median ltI d a b c sw).1)) ⟨S.set m (swB (Sort.median ltI d a b c sw).2),H⟩→C (.fn f) [.row (.stk n) 0 d.size d.size,.s (.int .i64 a),.s (.int .i64 b),.s (.int .i64 c),.ptr (.stk m) 0] ⟨S,H⟩ K
def MadS (C:CallW) (f:FuncId):Prop:=∀(n m:Nat) (d:Array Int) (a sw:Nat) S H (K:AV→St→Prop),n≠m→S[n]? = some (flat iA d)→S[m]? = some (swB sw)→1≤a→a + 1 < d.size→d.size≤2305843009213693952→sw≤900→K (.s (.int .i64 (Sort.medianAdjacent ltI d a sw).1)) ⟨S.set m (swB (Sort.medianAdjacent ltI d a sw).2),H⟩→C (.fn f) [.row (.stk n) 0 d.size d.size,.s (.int .i64 a),.ptr (.stk m) 0] ⟨S,H⟩ K
theorem sw_load {S:List (List AV)} {H:List HObj} {m k:Nat} (h:S[m]? = some (swB k)):load1L false (.ptr (.stk m) 0) ⟨S,H⟩=some (.s (.int .i64 k),⟨S,H⟩):=by
  simp only [load1L,boxOf_stk,h,Option.bind_some,swB]; rfl
theorem sw_store {S:List (List AV)} {H:List HObj} {m k j:Nat} (h:S[m]? = some (swB k)):storeL 1 (.ptr (.stk m) 0) (.s (.int .i64 j)) ⟨S,H⟩=some ⟨S.set m (swB j),H⟩:=by
  simp only [storeL,AV.cells,AV.fit,writeCells,boxOf_stk,h,Option.bind_some,mayHold,AV.under.go,AV.under,swB]; rfl
set_option maxHeartbeats 16000000 in
theorem order2_spec {C:CallW} (P:Program) {c:Nat→FuncId} (h0:LessS C (c 0)):∀(n m:Nat) (d:Array Int) (a b sw:Nat) S H (K:AV→St→Prop),S[n]? = some (flat iA d)→S[m]? = some (swB sw)→a < d.size→b < d.size→sw≤1000→K (.tup [.s (.int .i64 (Sort.order2 ltI d a b sw).1),.s (.int .i64 (Sort.order2 ltI d a b sw).2.1)]) ⟨S.set m (swB (Sort.order2 ltI d a b sw).2.2),H⟩→runL C P (C_slices_order2Ordered_int64 c) [.row (.stk n) 0 d.size d.size,.s (.int .i64 a),.s (.int .i64 b),.ptr (.stk m) 0] ⟨S,H⟩ K:=by
  intro n m d a b sw S H K hS hm ha hb hs hK
  unfold Sort.order2 at hK
  have x1:∀kk:IntKind,indexAddrL (.sl 1) (.row (.stk n) 0 d.size d.size) (.s (.int kk (a:Int)))=some (.ptr (.stk n) a):=fun kk=>ixi (by omega)
  have x2:∀kk:IntKind,indexAddrL (.sl 1) (.row (.stk n) 0 d.size d.size) (.s (.int kk (b:Int)))=some (.ptr (.stk n) b):=fun kk=>ixi (by omega)
  have r1:=ird (H:=H) hS (i:=a) (by omega)
  have r2:=ird (H:=H) hS (i:=b) (by omega)
  simp only [C_slices_order2Ordered_int64,A_,simprocAttr,ne_eq,(U_slices_order2Ordered_int64 _).1,x1,x2,r1,r2]
  refine h0 _ _ _ _ _ ?_
  cases hl:ltI d[b]! d[a]! with
  | true =>
    rw [hl,if_pos rfl] at hK
    have l1:=sw_load (H:=H) hm
    have s1:=sw_store (H:=H) (j:=sw + 1) hm
    have w1:IntKind.i64.wrap ((sw:Int) + 1)=((sw + 1:Nat):Int):=by rw [wrap_i64 (by omega) (by omega)]; omega
    simp only [A_,simprocAttr,ne_eq,(U_slices_order2Ordered_int64 _).1,l1,s1,w1]
    exact hK
  | false =>
    rw [hl,if_neg (by simp),sself hm] at hK
    simp only [A_,simprocAttr,ne_eq,(U_slices_order2Ordered_int64 _).1]
    exact hK
theorem order2_lt {d:Array Int} {a b sw N:Nat} (ha:a < N) (hb:b < N):(Sort.order2 ltI d a b sw).1 < N∧(Sort.order2 ltI d a b sw).2.1 < N∧(Sort.order2 ltI d a b sw).2.2≤sw + 1:=by
  unfold Sort.order2
  split
  · exact ⟨hb,ha,Nat.le_refl _⟩
  · exact ⟨ha,hb,Nat.le_succ _⟩
set_option maxHeartbeats 16000000 in
theorem median_spec {C:CallW} (P:Program) {c:Nat→FuncId} (h0:Ord2S C (c 0)):∀(n m:Nat) (d:Array Int) (a b e sw:Nat) S H (K:AV→St→Prop),n≠m→S[n]? = some (flat iA d)→S[m]? = some (swB sw)→a < d.size→b < d.size→e < d.size→sw≤900→K (.s (.int .i64 (Sort.median ltI d a b e sw).1)) ⟨S.set m (swB (Sort.median ltI d a b e sw).2),H⟩→runL C P (C_slices_medianOrdered_int64 c) [.row (.stk n) 0 d.size d.size,.s (.int .i64 a),.s (.int .i64 b),.s (.int .i64 e),.ptr (.stk m) 0] ⟨S,H⟩ K:=by
  intro n m d a b e sw S H K hnm hS hm ha hb he hs hK
  unfold Sort.median at hK
  have ng:∀x,(S.set m x)[n]? = some (flat iA d):=fun x=>by rw [List.getElem?_set_ne (fun h=>hnm h.symm)]; exact hS
  simp only [C_slices_medianOrdered_int64,A_,simprocAttr,ne_eq,(U_slices_medianOrdered_int64 _).1]
  obtain ⟨q1,q2,q3⟩:=order2_lt (d:=d) (sw:=sw) ha hb
  refine h0 n m d a b sw _ _ _ hS hm ha hb (by omega) ?_
  generalize Sort.order2 ltI d a b sw=r1 at hK q1 q2 q3 ⊢
  obtain ⟨p1,b2,s2⟩:=r1
  dsimp only at *
  simp only [A_,simprocAttr,ne_eq,(U_slices_medianOrdered_int64 _).1]
  obtain ⟨u1,u2,u3⟩:=order2_lt (d:=d) (sw:=s2) q2 he
  refine h0 n m d b2 e s2 _ _ _ (ng _) (sset hm) q2 he (by omega) ?_
  rw [List.set_set]
  generalize Sort.order2 ltI d b2 e s2=r2 at hK u1 u2 u3 ⊢
  obtain ⟨y1,y2,y3⟩:=r2
  dsimp only at *
  simp only [A_,simprocAttr,ne_eq,(U_slices_medianOrdered_int64 _).1]
  refine h0 n m d p1 y1 y3 _ _ _ (ng _) (sset hm) q1 u1 (by omega) ?_
  rw [List.set_set]
  simp only [A_,simprocAttr,ne_eq,(U_slices_medianOrdered_int64 _).1]
  exact hK
theorem medianAdjacent_spec {C:CallW} (P:Program) {c:Nat→FuncId} (h0:MedS C (c 0)):∀(n m:Nat) (d:Array Int) (a sw:Nat) S H (K:AV→St→Prop),n≠m→S[n]? = some (flat iA d)→S[m]? = some (swB sw)→1≤a→a + 1 < d.size→d.size≤2305843009213693952→sw≤900→K (.s (.int .i64 (Sort.medianAdjacent ltI d a sw).1)) ⟨S.set m (swB (Sort.medianAdjacent ltI d a sw).2),H⟩→runL C P (C_slices_medianAdjacentOrdered_int64 c) [.row (.stk n) 0 d.size d.size,.s (.int .i64 a),.ptr (.stk m) 0] ⟨S,H⟩ K:=by
  intro n m d a sw S H K hnm hS hm ha hb hd hs hK
  have w1:IntKind.i64.wrap ((a:Int) + 1)=((a + 1:Nat):Int):=by rw [wrap_i64 (by omega) (by omega)]; omega
  have w2:IntKind.i64.wrap ((a:Int) - 1)=((a - 1:Nat):Int):=by rw [wrap_i64 (by omega) (by omega)]; omega
  simp only [C_slices_medianAdjacentOrdered_int64,A_,simprocAttr,ne_eq,(U_slices_medianAdjacentOrdered_int64 _).1,w1,w2]
  refine h0 n m d (a - 1) a (a + 1) sw _ _ _ hnm hS hm (by omega) (by omega) hb hs ?_
  simp only [A_,simprocAttr,ne_eq,(U_slices_medianAdjacentOrdered_int64 _).1]
  exact hK
end Go.AM
namespace Go.AM
open Go
set_option maxRecDepth 20000
def hI:Sort.Hint→Int
  | .unknown=>0
  | .increasing=>1
  | .decreasing=>2
def ChpS (C:CallW) (f:FuncId):Prop:=∀(n:Nat) (d:Array Int) (a b:Nat) S H (K:AV→St→Prop),S[n]? = some (flat iA d)→a < b→b≤d.size→d.size≤2305843009213693952→K (.tup [.s (.int .i64 (Sort.choosePivot ltI d a b).1),.s (.int .i64 (hI (Sort.choosePivot ltI d a b).2))]) ⟨S,H⟩→C (.fn f) [.row (.stk n) 0 d.size d.size,.s (.int .i64 a),.s (.int .i64 b)] ⟨S,H⟩ K
theorem sapp {S:List (List AV)} {x y:List AV}:(S ++ [x]).set S.length y=S ++ [y]:=by simp
theorem sappg {S:List (List AV)} {n:Nat} {x:List AV} {d:Array Int} (h:S[n]? = some (flat iA d)):(S ++ [x])[n]? = some (flat iA d):=by rw [List.getElem?_append_left (slt h)]; exact h
theorem sappl {S:List (List AV)} {x:List AV}:(S ++ [x])[S.length]? = some x:=by simp
theorem order2_sw {d:Array Int} {a b sw:Nat}:(Sort.order2 ltI d a b sw).2.2≤sw + 1:=by
  unfold Sort.order2
  split
  · exact Nat.le_refl _
  · exact Nat.le_succ _
theorem median_sw {d:Array Int} {a b c sw:Nat}:(Sort.median ltI d a b c sw).2≤sw + 3:=by
  unfold Sort.median
  dsimp only
  have q1:=order2_sw (d:=d) (a:=a) (b:=b) (sw:=sw)
  have q2:=order2_sw (d:=d) (a:=(Sort.order2 ltI d a b sw).2.1) (b:=c) (sw:=(Sort.order2 ltI d a b sw).2.2)
  have q3:=order2_sw (d:=d) (a:=(Sort.order2 ltI d a b sw).1) (b:=(Sort.order2 ltI d (Sort.order2 ltI d a b sw).2.1 c (Sort.order2 ltI d a b sw).2.2).1) (sw:=(Sort.order2 ltI d (Sort.order2 ltI d a b sw).2.1 c (Sort.order2 ltI d a b sw).2.2).2.2)
  omega
theorem median_lt {d:Array Int} {a b c sw N:Nat} (ha:a < N) (hb:b < N) (hc:c < N):(Sort.median ltI d a b c sw).1 < N:=by
  unfold Sort.median
  dsimp only
  obtain ⟨q1,q2,_⟩:=order2_lt (d:=d) (sw:=sw) ha hb
  obtain ⟨u1,u2,_⟩:=order2_lt (d:=d) (sw:=(Sort.order2 ltI d a b sw).2.2) q2 hc
  exact (order2_lt q1 u1).2.1
set_option maxHeartbeats 16000000 in
theorem choosePivot_spec {C:CallW} (P:Program) {c:Nat→FuncId} (h0:MadS C (c 0)) (h1:MedS C (c 1)):∀(n:Nat) (d:Array Int) (a b:Nat) S H (K:AV→St→Prop),S[n]? = some (flat iA d)→a < b→b≤d.size→d.size≤2305843009213693952→K (.tup [.s (.int .i64 (Sort.choosePivot ltI d a b).1),.s (.int .i64 (hI (Sort.choosePivot ltI d a b).2))]) ⟨S,H⟩→runL C P (C_slices_choosePivotOrdered_int64 c) [.row (.stk n) 0 d.size d.size,.s (.int .i64 a),.s (.int .i64 b)] ⟨S,H⟩ K:=by
  intro n d a b S H K hS hab hb hd hK
  have hn:=slt hS
  have hnm:n≠S.length:=by omega
  have hw0:IntKind.i64.wrap ((b:Int) - (a:Int))=((b - a:Nat):Int):=by rw [wrap_i64 (by omega) (by omega)]; omega
  have hq:IntKind.i64.wrap (((b - a:Nat):Int).tdiv 4)=(((b - a) / 4:Nat):Int):=by
    rw [show ((b - a:Nat):Int).tdiv 4=(((b - a) / 4:Nat):Int) from rfl,wrap_i64 (by omega) (by omega)]
  unfold Sort.choosePivot at hK
  dsimp only at hK
  have hlb:b - a + a=b:=by omega
  generalize hl:b - a=l at *
  have hq4:l / 4 * 4≤l:=Nat.div_mul_le_self l 4
  have hq8:8≤l→2≤l / 4:=fun h=>by omega
  generalize hqq:l / 4=q at *
  have hm1:IntKind.i64.wrap ((q:Int) * 1)=((q * 1:Nat):Int):=by rw [wrap_i64 (by omega) (by omega)]; omega
  have hm2:IntKind.i64.wrap ((q:Int) * 2)=((q * 2:Nat):Int):=by rw [wrap_i64 (by omega) (by omega)]; omega
  have hm3:IntKind.i64.wrap ((q:Int) * 3)=((q * 3:Nat):Int):=by rw [wrap_i64 (by omega) (by omega)]; omega
  have ha1:IntKind.i64.wrap ((a:Int) + ((q * 1:Nat):Int))=((a + q * 1:Nat):Int):=by rw [wrap_i64 (by omega) (by omega)]; omega
  have ha2:IntKind.i64.wrap ((a:Int) + ((q * 2:Nat):Int))=((a + q * 2:Nat):Int):=by rw [wrap_i64 (by omega) (by omega)]; omega
  have ha3:IntKind.i64.wrap ((a:Int) + ((q * 3:Nat):Int))=((a + q * 3:Nat):Int):=by rw [wrap_i64 (by omega) (by omega)]; omega
  have fin1:∀(p sw:Nat) (K2:AV→St→Prop),(K2 (.tup [.s (.int .i64 p),.s (.int .i64 (hI (if sw=0 then .increasing else if sw=12 then .decreasing else .unknown)))]) ⟨S,H⟩→True):=fun _ _ _ _=>trivial
  clear fin1
  have hal:∀x y:Nat,(S ++ [swB x]).set S.length (swB y)=S ++ [swB y]:=fun _ _=>sapp
  by_cases h8:8≤l
  case neg =>
    have h8':¬((8:Int)≤(l:Int)):=by omega
    rw [if_neg h8] at hK
    simp only [C_slices_choosePivotOrdered_int64,A_,simprocAttr,ne_eq,(U_slices_choosePivotOrdered_int64 _).1,hw0,hq,hm1,hm2,hm3,ha1,ha2,ha3,h8']
    exact hK
  have h8':((8:Int)≤(l:Int)):=by omega
  rw [if_pos h8] at hK
  have tailK:∀(p sw:Nat),(p,sw)=(p,sw)→True:=fun _ _ _=>trivial
  clear tailK
  by_cases h50:50≤l
  case neg =>
    have h50':¬((50:Int)≤(l:Int)):=by omega
    rw [if_neg h50] at hK
    simp only [C_slices_choosePivotOrdered_int64,A_,simprocAttr,ne_eq,(U_slices_choosePivotOrdered_int64 _).1,hw0,hq,hm1,hm2,hm3,ha1,ha2,ha3,h8',h50']
    refine h1 n S.length d _ _ _ 0 _ _ _ hnm (sappg hS) sappl (by omega) (by omega) (by omega) (by omega) ?_
    have hsw:=median_sw (d:=d) (a:=a + q * 1) (b:=a + q * 2) (c:=a + q * 3) (sw:=0)
    generalize Sort.median ltI d (a + q * 1) (a + q * 2) (a + q * 3) 0=r at hK hsw ⊢
    obtain ⟨p,sw⟩:=r
    dsimp only at hK hsw ⊢
    rw [sapp]
    have hl1:=sw_load (S:=S ++ [swB sw]) (H:=H) (m:=S.length) (k:=sw) sappl
    by_cases e0:sw=0
    · subst e0
      simp only [A_,simprocAttr,ne_eq,(U_slices_choosePivotOrdered_int64 _).1,hl1]
      exact hK
    rw [if_neg e0] at hK
    by_cases e12:sw=12
    · subst e12
      simp only [A_,simprocAttr,ne_eq,(U_slices_choosePivotOrdered_int64 _).1,hl1]
      exact hK
    rw [if_neg e12] at hK
    have e0':¬((sw:Int)=0):=by omega
    have e12':¬((sw:Int)=12):=by omega
    simp only [A_,simprocAttr,ne_eq,(U_slices_choosePivotOrdered_int64 _).1,hl1,e0',e12']
    exact hK
  have h50':((50:Int)≤(l:Int)):=by omega
  rw [if_pos h50] at hK
  simp only [C_slices_choosePivotOrdered_int64,A_,simprocAttr,ne_eq,(U_slices_choosePivotOrdered_int64 _).1,hw0,hq,hm1,hm2,hm3,ha1,ha2,ha3,h8',h50']
  refine h0 n S.length d _ 0 _ _ _ hnm (sappg hS) sappl (by omega) (by omega) hd (by omega) ?_
  rw [sapp]
  have g1:=median_sw (d:=d) (a:=a + q * 1 - 1) (b:=a + q * 1) (c:=a + q * 1 + 1) (sw:=0)
  have t1:=median_lt (d:=d) (sw:=0) (a:=a + q * 1 - 1) (b:=a + q * 1) (c:=a + q * 1 + 1) (N:=d.size) (by omega) (by omega) (by omega)
  unfold Sort.medianAdjacent at hK ⊢
  generalize Sort.median ltI d (a + q * 1 - 1) (a + q * 1) (a + q * 1 + 1) 0=r1 at hK g1 t1 ⊢
  obtain ⟨i1,s1⟩:=r1
  dsimp only at hK g1 t1 ⊢
  simp only [A_,simprocAttr,ne_eq,(U_slices_choosePivotOrdered_int64 _).1]
  refine h0 n S.length d _ s1 _ _ _ hnm (sappg hS) sappl (by omega) (by omega) hd (by omega) ?_
  rw [sapp]
  have g2:=median_sw (d:=d) (a:=a + q * 2 - 1) (b:=a + q * 2) (c:=a + q * 2 + 1) (sw:=s1)
  have t2:=median_lt (d:=d) (sw:=s1) (a:=a + q * 2 - 1) (b:=a + q * 2) (c:=a + q * 2 + 1) (N:=d.size) (by omega) (by omega) (by omega)
  unfold Sort.medianAdjacent
  generalize Sort.median ltI d (a + q * 2 - 1) (a + q * 2) (a + q * 2 + 1) s1=r2 at hK g2 t2 ⊢
  obtain ⟨i2,s2⟩:=r2
  dsimp only at hK g2 t2 ⊢
  simp only [A_,simprocAttr,ne_eq,(U_slices_choosePivotOrdered_int64 _).1]
  refine h0 n S.length d _ s2 _ _ _ hnm (sappg hS) sappl (by omega) (by omega) hd (by omega) ?_
  rw [sapp]
  have g3:=median_sw (d:=d) (a:=a + q * 3 - 1) (b:=a + q * 3) (c:=a + q * 3 + 1) (sw:=s2)
  have t3:=median_lt (d:=d) (sw:=s2) (a:=a + q * 3 - 1) (b:=a + q * 3) (c:=a + q * 3 + 1) (N:=d.size) (by omega) (by omega) (by omega)
  unfold Sort.medianAdjacent
  generalize Sort.median ltI d (a + q * 3 - 1) (a + q * 3) (a + q * 3 + 1) s2=r3 at hK g3 t3 ⊢
  obtain ⟨i3,s3⟩:=r3
  dsimp only at hK g3 t3 ⊢
  simp only [A_,simprocAttr,ne_eq,(U_slices_choosePivotOrdered_int64 _).1]
  refine h1 n S.length d i1 i2 i3 s3 _ _ _ hnm (sappg hS) sappl t1 t2 t3 (by omega) ?_
  have hsw:=median_sw (d:=d) (a:=i1) (b:=i2) (c:=i3) (sw:=s3)
  generalize Sort.median ltI d i1 i2 i3 s3=r at hK hsw ⊢
  obtain ⟨p,sw⟩:=r
  dsimp only at hK hsw ⊢
  rw [sapp]
  have hl1:=sw_load (S:=S ++ [swB sw]) (H:=H) (m:=S.length) (k:=sw) sappl
  by_cases e0:sw=0
  · subst e0
    simp only [A_,simprocAttr,ne_eq,(U_slices_choosePivotOrdered_int64 _).1,hl1]
    exact hK
  rw [if_neg e0] at hK
  by_cases e12:sw=12
  · subst e12
    simp only [A_,simprocAttr,ne_eq,(U_slices_choosePivotOrdered_int64 _).1,hl1]
    exact hK
  rw [if_neg e12] at hK
  have e0':¬((sw:Int)=0):=by omega
  have e12':¬((sw:Int)=12):=by omega
  simp only [A_,simprocAttr,ne_eq,(U_slices_choosePivotOrdered_int64 _).1,hl1,e0',e12']
  exact hK
end Go.AM
namespace Go.AM
open Go
set_option maxRecDepth 20000
def rB (r:UInt64):List AV:=[.s (.int .u64 r.toNat)]
def XorS (C:CallW) (f:FuncId):Prop:=∀(m:Nat) (r:UInt64) S H (K:AV→St→Prop),S[m]? = some (rB r)→K (.s (.int .u64 (Sort.xorNext r).toNat)) ⟨S.set m (rB (Sort.xorNext r)),H⟩→C (.fn f) [.ptr (.stk m) 0] ⟨S,H⟩ K
theorem rB_load {S:List (List AV)} {H:List HObj} {m:Nat} {r:UInt64} (h:S[m]? = some (rB r)):load1L false (.ptr (.stk m) 0) ⟨S,H⟩=some (.s (.int .u64 r.toNat),⟨S,H⟩):=by
  simp only [load1L,boxOf_stk,h,Option.bind_some,rB]; rfl
theorem rB_store {S:List (List AV)} {H:List HObj} {m:Nat} {r:UInt64} {j:UInt64} (h:S[m]? = some (rB r)):storeL 1 (.ptr (.stk m) 0) (.s (.int .u64 j.toNat)) ⟨S,H⟩=some ⟨S.set m (rB j),H⟩:=by
  simp only [storeL,AV.cells,AV.fit,writeCells,boxOf_stk,h,Option.bind_some,mayHold,AV.under.go,AV.under,rB]; rfl
theorem wu64 {n:Nat} (h:n < 18446744073709551616):IntKind.u64.wrap (n:Int)=(n:Int):=by rw [wrap_u64]; omega
theorem ofNat64 (x:UInt64):BitVec.ofInt IntKind.u64.bits (x.toNat:Int)=x.toBitVec:=by
  apply BitVec.eq_of_toNat_eq
  rw [BitVec.toNat_ofInt]
  have:=x.toNat_lt
  show ((x.toNat:Int) % ((2 ^ 64:Nat):Int)).toNat=x.toNat
  omega
theorem xor64 (x y:UInt64):IntKind.u64.wrap ((BitVec.ofInt IntKind.u64.bits (x.toNat:Int) ^^^ BitVec.ofInt IntKind.u64.bits (y.toNat:Int)).toNat:Int)=((x ^^^ y).toNat:Int):=by
  rw [ofNat64,ofNat64]
  exact wu64 (x ^^^ y).toNat_lt
theorem shl64 (x:UInt64) {k:Nat} (hk:k < 64):IntKind.u64.wrap ((x.toNat:Int) * 2 ^ k)=((x <<< (UInt64.ofNat k)).toNat:Int):=by
  rw [wrap_u64,UInt64.toNat_shiftLeft,Nat.shiftLeft_eq]
  have e:(UInt64.ofNat k).toNat % 64=k:=by rw [UInt64.toNat_ofNat']; omega
  rw [e]
  have:((x.toNat:Int) * 2 ^ k)=((x.toNat * 2 ^ k:Nat):Int):=by push_cast; rfl
  rw [this]
  omega
theorem shr64 (x:UInt64) {k:Nat} (hk:k < 64):(x.toNat / 2 ^ k:Nat)=(x >>> (UInt64.ofNat k)).toNat:=by
  rw [UInt64.toNat_shiftRight,Nat.shiftRight_eq_div_pow]
  have e:(UInt64.ofNat k).toNat % 64=k:=by rw [UInt64.toNat_ofNat']; omega
  rw [e]
theorem xorshift_spec {C:CallW} (P:Program):∀(m:Nat) (r:UInt64) S H (K:AV→St→Prop),S[m]? = some (rB r)→K (.s (.int .u64 (Sort.xorNext r).toNat)) ⟨S.set m (rB (Sort.xorNext r)),H⟩→runL C P C_slices_xorshift_Next [.ptr (.stk m) 0] ⟨S,H⟩ K:=by
  intro m r S H K hm hK
  have l1:=rB_load (H:=H) hm
  have m13:min 13 IntKind.u64.bits=13:=rfl
  have m7:min 7 IntKind.u64.bits=7:=rfl
  have m17:min 17 IntKind.u64.bits=17:=rfl
  have s1:∀x:UInt64,IntKind.u64.wrap ((x.toNat:Int) * 8192)=((x <<< 13).toNat:Int):=fun x=>by rw [show (8192:Int)=2 ^ 13 from rfl]; exact shl64 x (k:=13) (by omega)
  have s2:∀x:UInt64,IntKind.u64.wrap ((x.toNat:Int) * 131072)=((x <<< 17).toNat:Int):=fun x=>by rw [show (131072:Int)=2 ^ 17 from rfl]; exact shl64 x (k:=17) (by omega)
  have s3:∀x:UInt64,(x.toNat:Int).fdiv 128=((x >>> 7).toNat:Int):=fun x=>by
    have e:=shr64 x (k:=7) (by omega)
    rw [Int.fdiv_eq_ediv_of_nonneg _ (by omega),show x >>> 7=x >>> UInt64.ofNat 7 from rfl,←e]
    omega
  have w:∀y:UInt64,storeL 1 (.ptr (.stk m) 0) (.s (.int .u64 y.toNat)) ⟨S,H⟩=some ⟨S.set m (rB y),H⟩:=fun y=>rB_store hm
  have w2:∀x y:UInt64,storeL 1 (.ptr (.stk m) 0) (.s (.int .u64 y.toNat)) ⟨S.set m (rB x),H⟩=some ⟨S.set m (rB y),H⟩:=fun x y=>by rw [rB_store (sset hm),List.set_set]
  have l2:∀x:UInt64,load1L false (.ptr (.stk m) 0) ⟨S.set m (rB x),H⟩=some (.s (.int .u64 x.toNat),⟨S.set m (rB x),H⟩):=fun x=>rB_load (sset hm)
  simp only [C_slices_xorshift_Next,A_,simprocAttr,ne_eq,U_slices_xorshift_Next.1,l1,m13,m7,m17,s1,s2,s3,xor64,w,w2,l2]
  exact hK
end Go.AM
namespace Go.AM
open Go
set_option maxRecDepth 20000
theorem bitsLen_iff {x k:Nat} (h1:2 ^ k≤x) (h2:x < 2 ^ (k + 1)):Sort.bitsLen x=k + 1:=by
  have hx:x≠0:=by have:=Nat.two_pow_pos k; omega
  unfold Sort.bitsLen
  rw [if_neg hx,(Nat.log2_eq_iff hx).2 ⟨h1,h2⟩]
theorem bitsLen_shift {x s:Nat} (h:2 ^ s≤x):Sort.bitsLen x=Sort.bitsLen (x / 2 ^ s) + s:=by
  have hp:=Nat.two_pow_pos s
  have hy:x / 2 ^ s≠0:=by
    have:=(Nat.le_div_iff_mul_le hp (x:=1) (y:=x)).2 (by omega)
    omega
  obtain ⟨h1,h2⟩:=(Nat.log2_eq_iff hy).1 rfl
  rw [bitsLen_iff h1 h2]
  generalize (x / 2 ^ s).log2=k at h1 h2
  have g1:=(Nat.le_div_iff_mul_le hp).1 h1
  have g2:=(Nat.div_lt_iff_lt_mul hp).1 h2
  rw [←Nat.pow_add] at g1 g2
  rw [bitsLen_iff (k:=k + s) g1 (by rw [show k + s + 1=k + 1 + s by omega]; exact g2)]
  omega
def LenS (C:CallW) (f:FuncId):Prop:=∀(x:Nat),x < 18446744073709551616→FnS C f [.s (.int .u64 x)] (.s (.int .i64 (Sort.bitsLen x:Nat)))
def tab8:List UInt8:=[0,1,2,2,3,3,3,3,4,4,4,4,4,4,4,4] ++ List.replicate 16 5 ++ List.replicate 32 6 ++ List.replicate 64 7 ++ List.replicate 128 8
theorem tab8_ok:∀k:Nat,k < 256→((tab8.getD k 0).toNat=Sort.bitsLen k):=by decide
theorem tab8_eq:([0,1,2,2,3,3,3,3,4,4,4,4,4,4,4,4,5,5,5,5,5,5,5,5,5,5,5,5,5,5,5,5,6,6,6,6,6,6,6,6,6,6,6,6,6,6,6,6,6,6,6,6,6,6,6,6,6,6,6,6,6,6,6,6,7,7,7,7,7,7,7,7,7,7,7,7,7,7,7,7,7,7,7,7,7,7,7,7,7,7,7,7,7,7,7,7,7,7,7,7,7,7,7,7,7,7,7,7,7,7,7,7,7,7,7,7,7,7,7,7,7,7,7,7,7,7,7,7,8,8,8,8,8,8,8,8,8,8,8,8,8,8,8,8,8,8,8,8,8,8,8,8,8,8,8,8,8,8,8,8,8,8,8,8,8,8,8,8,8,8,8,8,8,8,8,8,8,8,8,8,8,8,8,8,8,8,8,8,8,8,8,8,8,8,8,8,8,8,8,8,8,8,8,8,8,8,8,8,8,8,8,8,8,8,8,8,8,8,8,8,8,8,8,8,8,8,8,8,8,8,8,8,8,8,8,8,8,8,8,8,8,8,8,8,8,8,8,8,8,8,8,8,8,8,8,8]:List UInt8)=tab8:=rfl
theorem tab8_len:tab8.length=256:=by decide
theorem fdn {x m:Nat} (h:0 < m):((x:Int)).fdiv (m:Int)=((x / m:Nat):Int):=by
  rw [Int.fdiv_eq_ediv_of_nonneg _ (by omega)]; omega
theorem w8 {x:Nat} (h:x < 256):IntKind.u8.wrap (x:Int)=(x:Int):=by
  unfold IntKind.wrap
  simp [IntKind.signed,IntKind.bits]
  omega
set_option maxHeartbeats 4000000 in
theorem Len64_spec {C:CallW} (P:Program):∀(x:Nat) S H (K:AV→St→Prop),x < 18446744073709551616→K (.s (.int .i64 (Sort.bitsLen x:Nat))) ⟨S,H⟩→runL C P C_math_bits_Len64 [.s (.int .u64 x)] ⟨S,H⟩ K:=by
  intro x S H K hx hK
  have m32:min 32 IntKind.u64.bits=32:=rfl
  have m16:min 16 IntKind.u64.bits=16:=rfl
  have m8:min 8 IntKind.u64.bits=8:=rfl
  have f32:∀y:Nat,((y:Int)).fdiv 4294967296=((y / 4294967296:Nat):Int):=fun y=>fdn (m:=4294967296) (by omega)
  have f16:∀y:Nat,((y:Int)).fdiv 65536=((y / 65536:Nat):Int):=fun y=>fdn (m:=65536) (by omega)
  have f8:∀y:Nat,((y:Int)).fdiv 256=((y / 256:Nat):Int):=fun y=>fdn (m:=256) (by omega)
  by_cases g32:4294967296≤x
  · have g32':((4294967296:Int)≤((x:Nat):Int)):=by omega
    by_cases g16:65536≤x / 4294967296
    · have g16':((65536:Int)≤((x / 4294967296:Nat):Int)):=by omega
      by_cases g8:256≤x / 4294967296 / 65536
      · have g8':((256:Int)≤((x / 4294967296 / 65536:Nat):Int)):=by omega
        have hy:x / 4294967296 / 65536 / 256 < 256:=by omega
        have hc:=w8 hy
        have ht:=tab8_ok _ hy
        have hw:IntKind.i64.wrap ((56:Int) + ((Sort.bitsLen (x / 4294967296 / 65536 / 256):Nat):Int))=((Sort.bitsLen (x / 4294967296 / 65536 / 256) + 56:Nat):Int):=by rw [←ht]; have:=(tab8.getD (x / 4294967296 / 65536 / 256) 0).toNat_lt; rw [wrap_i64 (by omega) (by omega)]; omega
        have wb:IntKind.i64.wrap ((Sort.bitsLen (x / 4294967296 / 65536 / 256):Nat):Int)=((Sort.bitsLen (x / 4294967296 / 65536 / 256):Nat):Int):=by rw [←ht]; have:=(tab8.getD (x / 4294967296 / 65536 / 256) 0).toNat_lt; rw [wrap_i64 (by omega) (by omega)]
        have p1:((0:Int)≤((x / 4294967296 / 65536 / 256:Nat):Int))=True:=eq_true (by omega)
        have p2:(((x / 4294967296 / 65536 / 256:Nat):Int) < 256)=True:=eq_true (by omega)
        simp only [C_math_bits_Len64,A_,simprocAttr,ne_eq,U_math_bits_Len64.1,m32,m16,m8,f32,f16,f8,hx,g32',g16',g8',convL,hc,p1,p2,tab8_eq,tab8_len,ht,hw,wb]
        have e32:=bitsLen_shift (x:=x) (s:=32) (by omega)
        simp only [Nat.reducePow] at e32
        have e16:=bitsLen_shift (x:=x / 4294967296) (s:=16) (by omega)
        simp only [Nat.reducePow] at e16
        have e8:=bitsLen_shift (x:=x / 4294967296 / 65536) (s:=8) (by omega)
        simp only [Nat.reducePow] at e8
        rw [show Sort.bitsLen x=Sort.bitsLen (x / 4294967296 / 65536 / 256) + 56 by omega] at hK
        exact hK
      · have g8':¬((256:Int)≤((x / 4294967296 / 65536:Nat):Int)):=by omega
        have hy:x / 4294967296 / 65536 < 256:=by omega
        have hc:=w8 hy
        have ht:=tab8_ok _ hy
        have hw:IntKind.i64.wrap ((48:Int) + ((Sort.bitsLen (x / 4294967296 / 65536):Nat):Int))=((Sort.bitsLen (x / 4294967296 / 65536) + 48:Nat):Int):=by rw [←ht]; have:=(tab8.getD (x / 4294967296 / 65536) 0).toNat_lt; rw [wrap_i64 (by omega) (by omega)]; omega
        have wb:IntKind.i64.wrap ((Sort.bitsLen (x / 4294967296 / 65536):Nat):Int)=((Sort.bitsLen (x / 4294967296 / 65536):Nat):Int):=by rw [←ht]; have:=(tab8.getD (x / 4294967296 / 65536) 0).toNat_lt; rw [wrap_i64 (by omega) (by omega)]
        have p1:((0:Int)≤((x / 4294967296 / 65536:Nat):Int))=True:=eq_true (by omega)
        have p2:(((x / 4294967296 / 65536:Nat):Int) < 256)=True:=eq_true (by omega)
        simp only [C_math_bits_Len64,A_,simprocAttr,ne_eq,U_math_bits_Len64.1,m32,m16,m8,f32,f16,f8,hx,g32',g16',g8',convL,hc,p1,p2,tab8_eq,tab8_len,ht,hw,wb]
        have e32:=bitsLen_shift (x:=x) (s:=32) (by omega)
        simp only [Nat.reducePow] at e32
        have e16:=bitsLen_shift (x:=x / 4294967296) (s:=16) (by omega)
        simp only [Nat.reducePow] at e16
        rw [show Sort.bitsLen x=Sort.bitsLen (x / 4294967296 / 65536) + 48 by omega] at hK
        exact hK
    · have g16':¬((65536:Int)≤((x / 4294967296:Nat):Int)):=by omega
      by_cases g8:256≤x / 4294967296
      · have g8':((256:Int)≤((x / 4294967296:Nat):Int)):=by omega
        have hy:x / 4294967296 / 256 < 256:=by omega
        have hc:=w8 hy
        have ht:=tab8_ok _ hy
        have hw:IntKind.i64.wrap ((40:Int) + ((Sort.bitsLen (x / 4294967296 / 256):Nat):Int))=((Sort.bitsLen (x / 4294967296 / 256) + 40:Nat):Int):=by rw [←ht]; have:=(tab8.getD (x / 4294967296 / 256) 0).toNat_lt; rw [wrap_i64 (by omega) (by omega)]; omega
        have wb:IntKind.i64.wrap ((Sort.bitsLen (x / 4294967296 / 256):Nat):Int)=((Sort.bitsLen (x / 4294967296 / 256):Nat):Int):=by rw [←ht]; have:=(tab8.getD (x / 4294967296 / 256) 0).toNat_lt; rw [wrap_i64 (by omega) (by omega)]
        have p1:((0:Int)≤((x / 4294967296 / 256:Nat):Int))=True:=eq_true (by omega)
        have p2:(((x / 4294967296 / 256:Nat):Int) < 256)=True:=eq_true (by omega)
        simp only [C_math_bits_Len64,A_,simprocAttr,ne_eq,U_math_bits_Len64.1,m32,m16,m8,f32,f16,f8,hx,g32',g16',g8',convL,hc,p1,p2,tab8_eq,tab8_len,ht,hw,wb]
        have e32:=bitsLen_shift (x:=x) (s:=32) (by omega)
        simp only [Nat.reducePow] at e32
        have e8:=bitsLen_shift (x:=x / 4294967296) (s:=8) (by omega)
        simp only [Nat.reducePow] at e8
        rw [show Sort.bitsLen x=Sort.bitsLen (x / 4294967296 / 256) + 40 by omega] at hK
        exact hK
      · have g8':¬((256:Int)≤((x / 4294967296:Nat):Int)):=by omega
        have hy:x / 4294967296 < 256:=by omega
        have hc:=w8 hy
        have ht:=tab8_ok _ hy
        have hw:IntKind.i64.wrap ((32:Int) + ((Sort.bitsLen (x / 4294967296):Nat):Int))=((Sort.bitsLen (x / 4294967296) + 32:Nat):Int):=by rw [←ht]; have:=(tab8.getD (x / 4294967296) 0).toNat_lt; rw [wrap_i64 (by omega) (by omega)]; omega
        have wb:IntKind.i64.wrap ((Sort.bitsLen (x / 4294967296):Nat):Int)=((Sort.bitsLen (x / 4294967296):Nat):Int):=by rw [←ht]; have:=(tab8.getD (x / 4294967296) 0).toNat_lt; rw [wrap_i64 (by omega) (by omega)]
        have p1:((0:Int)≤((x / 4294967296:Nat):Int))=True:=eq_true (by omega)
        have p2:(((x / 4294967296:Nat):Int) < 256)=True:=eq_true (by omega)
        simp only [C_math_bits_Len64,A_,simprocAttr,ne_eq,U_math_bits_Len64.1,m32,m16,m8,f32,f16,f8,hx,g32',g16',g8',convL,hc,p1,p2,tab8_eq,tab8_len,ht,hw,wb]
        have e32:=bitsLen_shift (x:=x) (s:=32) (by omega)
        simp only [Nat.reducePow] at e32
        rw [show Sort.bitsLen x=Sort.bitsLen (x / 4294967296) + 32 by omega] at hK
        exact hK
  · have g32':¬((4294967296:Int)≤((x:Nat):Int)):=by omega
    by_cases g16:65536≤x
    · have g16':((65536:Int)≤((x:Nat):Int)):=by omega
      by_cases g8:256≤x / 65536
      · have g8':((256:Int)≤((x / 65536:Nat):Int)):=by omega
        have hy:x / 65536 / 256 < 256:=by omega
        have hc:=w8 hy
        have ht:=tab8_ok _ hy
        have hw:IntKind.i64.wrap ((24:Int) + ((Sort.bitsLen (x / 65536 / 256):Nat):Int))=((Sort.bitsLen (x / 65536 / 256) + 24:Nat):Int):=by rw [←ht]; have:=(tab8.getD (x / 65536 / 256) 0).toNat_lt; rw [wrap_i64 (by omega) (by omega)]; omega
        have wb:IntKind.i64.wrap ((Sort.bitsLen (x / 65536 / 256):Nat):Int)=((Sort.bitsLen (x / 65536 / 256):Nat):Int):=by rw [←ht]; have:=(tab8.getD (x / 65536 / 256) 0).toNat_lt; rw [wrap_i64 (by omega) (by omega)]
        have p1:((0:Int)≤((x / 65536 / 256:Nat):Int))=True:=eq_true (by omega)
        have p2:(((x / 65536 / 256:Nat):Int) < 256)=True:=eq_true (by omega)
        simp only [C_math_bits_Len64,A_,simprocAttr,ne_eq,U_math_bits_Len64.1,m32,m16,m8,f32,f16,f8,hx,g32',g16',g8',convL,hc,p1,p2,tab8_eq,tab8_len,ht,hw,wb]
        have e16:=bitsLen_shift (x:=x) (s:=16) (by omega)
        simp only [Nat.reducePow] at e16
        have e8:=bitsLen_shift (x:=x / 65536) (s:=8) (by omega)
        simp only [Nat.reducePow] at e8
        rw [show Sort.bitsLen x=Sort.bitsLen (x / 65536 / 256) + 24 by omega] at hK
        exact hK
      · have g8':¬((256:Int)≤((x / 65536:Nat):Int)):=by omega
        have hy:x / 65536 < 256:=by omega
        have hc:=w8 hy
        have ht:=tab8_ok _ hy
        have hw:IntKind.i64.wrap ((16:Int) + ((Sort.bitsLen (x / 65536):Nat):Int))=((Sort.bitsLen (x / 65536) + 16:Nat):Int):=by rw [←ht]; have:=(tab8.getD (x / 65536) 0).toNat_lt; rw [wrap_i64 (by omega) (by omega)]; omega
        have wb:IntKind.i64.wrap ((Sort.bitsLen (x / 65536):Nat):Int)=((Sort.bitsLen (x / 65536):Nat):Int):=by rw [←ht]; have:=(tab8.getD (x / 65536) 0).toNat_lt; rw [wrap_i64 (by omega) (by omega)]
        have p1:((0:Int)≤((x / 65536:Nat):Int))=True:=eq_true (by omega)
        have p2:(((x / 65536:Nat):Int) < 256)=True:=eq_true (by omega)
        simp only [C_math_bits_Len64,A_,simprocAttr,ne_eq,U_math_bits_Len64.1,m32,m16,m8,f32,f16,f8,hx,g32',g16',g8',convL,hc,p1,p2,tab8_eq,tab8_len,ht,hw,wb]
        have e16:=bitsLen_shift (x:=x) (s:=16) (by omega)
        simp only [Nat.reducePow] at e16
        rw [show Sort.bitsLen x=Sort.bitsLen (x / 65536) + 16 by omega] at hK
        exact hK
    · have g16':¬((65536:Int)≤((x:Nat):Int)):=by omega
      by_cases g8:256≤x
      · have g8':((256:Int)≤((x:Nat):Int)):=by omega
        have hy:x / 256 < 256:=by omega
        have hc:=w8 hy
        have ht:=tab8_ok _ hy
        have hw:IntKind.i64.wrap ((8:Int) + ((Sort.bitsLen (x / 256):Nat):Int))=((Sort.bitsLen (x / 256) + 8:Nat):Int):=by rw [←ht]; have:=(tab8.getD (x / 256) 0).toNat_lt; rw [wrap_i64 (by omega) (by omega)]; omega
        have wb:IntKind.i64.wrap ((Sort.bitsLen (x / 256):Nat):Int)=((Sort.bitsLen (x / 256):Nat):Int):=by rw [←ht]; have:=(tab8.getD (x / 256) 0).toNat_lt; rw [wrap_i64 (by omega) (by omega)]
        have p1:((0:Int)≤((x / 256:Nat):Int))=True:=eq_true (by omega)
        have p2:(((x / 256:Nat):Int) < 256)=True:=eq_true (by omega)
        simp only [C_math_bits_Len64,A_,simprocAttr,ne_eq,U_math_bits_Len64.1,m32,m16,m8,f32,f16,f8,hx,g32',g16',g8',convL,hc,p1,p2,tab8_eq,tab8_len,ht,hw,wb]
        have e8:=bitsLen_shift (x:=x) (s:=8) (by omega)
        simp only [Nat.reducePow] at e8
        rw [show Sort.bitsLen x=Sort.bitsLen (x / 256) + 8 by omega] at hK
        exact hK
      · have g8':¬((256:Int)≤((x:Nat):Int)):=by omega
        have hy:x < 256:=by omega
        have hc:=w8 hy
        have ht:=tab8_ok _ hy
        have hw:IntKind.i64.wrap ((0:Int) + ((Sort.bitsLen (x):Nat):Int))=((Sort.bitsLen (x) + 0:Nat):Int):=by rw [←ht]; have:=(tab8.getD (x) 0).toNat_lt; rw [wrap_i64 (by omega) (by omega)]; omega
        have wb:IntKind.i64.wrap ((Sort.bitsLen (x):Nat):Int)=((Sort.bitsLen (x):Nat):Int):=by rw [←ht]; have:=(tab8.getD (x) 0).toNat_lt; rw [wrap_i64 (by omega) (by omega)]
        have p1:((0:Int)≤((x:Nat):Int))=True:=eq_true (by omega)
        have p2:(((x:Nat):Int) < 256)=True:=eq_true (by omega)
        simp only [C_math_bits_Len64,A_,simprocAttr,ne_eq,U_math_bits_Len64.1,m32,m16,m8,f32,f16,f8,hx,g32',g16',g8',convL,hc,p1,p2,tab8_eq,tab8_len,ht,hw,wb]
        rw [show Sort.bitsLen x=Sort.bitsLen (x) + 0 by omega] at hK
        exact hK
end Go.AM
namespace Go.AM
open Go
open AV renaming undef → uu
set_option maxRecDepth 20000
theorem Len_spec {C:CallW} (P:Program) {c:Nat→FuncId} (h1:LenS C (c 1)):∀(x:Nat) S H (K:AV→St→Prop),x < 18446744073709551616→K (.s (.int .i64 (Sort.bitsLen x:Nat))) ⟨S,H⟩→runL C P (C_math_bits_Len c) [.s (.int .u64 x)] ⟨S,H⟩ K:=by
  intro x S H K hx hK
  simp only [C_math_bits_Len,A_,simprocAttr,ne_eq,(U_math_bits_Len _).1]
  refine h1 x hx _ _ _ ?_
  simp only [A_,simprocAttr,ne_eq,(U_math_bits_Len _).1]
  exact hK
theorem bitsLen_le {x k:Nat} (h:x < 2 ^ k):Sort.bitsLen x≤k:=by
  unfold Sort.bitsLen
  split
  · exact Nat.zero_le _
  · rename_i hx
    exact (Nat.log2_lt hx).2 h
theorem bitsLen_pow {x:Nat} (h:1≤x):2 ^ Sort.bitsLen x≤2 * x:=by
  have hx:x≠0:=by omega
  unfold Sort.bitsLen
  rw [if_neg hx,Nat.pow_succ]
  have:=(Nat.log2_eq_iff hx).1 rfl
  omega
def NpS (C:CallW) (f:FuncId):Prop:=∀(n:Nat),n≤2305843009213693952→FnS C f [.s (.int .i64 n)] (.s (.int .u64 ((2 ^ Sort.bitsLen n:Nat):Int)))
theorem nextPow_spec {C:CallW} (P:Program) {c:Nat→FuncId} (h0:LenS C (c 0)):∀(n:Nat) S H (K:AV→St→Prop),n≤2305843009213693952→K (.s (.int .u64 ((2 ^ Sort.bitsLen n:Nat):Int))) ⟨S,H⟩→runL C P (C_slices_nextPowerOfTwo c) [.s (.int .i64 n)] ⟨S,H⟩ K:=by
  intro n S H K hn hK
  have hc:IntKind.u64.wrap (n:Int)=(n:Int):=wu64 (by omega)
  have hl:=bitsLen_le (x:=n) (k:=62) (by omega)
  simp only [C_slices_nextPowerOfTwo,A_,simprocAttr,ne_eq,(U_slices_nextPowerOfTwo _).1,convL,hc]
  refine h0 n (by omega) _ _ _ ?_
  have hpos:((0:Int)≤(Sort.bitsLen n:Int))=True:=eq_true (by omega)
  have hneg:((Sort.bitsLen n:Int) < 0)=False:=eq_false (by omega)
  simp only [A_,simprocAttr,ne_eq,(U_slices_nextPowerOfTwo _).1,hpos,hneg]
  rw [Nat.min_eq_left (show Sort.bitsLen n≤IntKind.u64.bits from Nat.le_trans hl (by decide)),Int.one_mul]
  have e:(2:Int) ^ Sort.bitsLen n=((2 ^ Sort.bitsLen n:Nat):Int):=by push_cast; rfl
  have hp:2 ^ Sort.bitsLen n≤2 ^ 62:=Nat.pow_le_pow_right (by omega) hl
  rw [e,wu64 (by omega)]
  exact hK
def remS (a length modulus:Nat):Nat→Nat→UInt64×Array Int→Array Int
  | 0,_,st=>st.2
  | l + 1,idx,st=>remS a length modulus l (idx + 1) (Sort.breakStep a length modulus st idx)
theorem and64 (x:UInt64) {m:Nat} (h:m < 18446744073709551616):IntKind.u64.wrap ((BitVec.ofInt IntKind.u64.bits (x.toNat:Int) &&& BitVec.ofInt IntKind.u64.bits (m:Int)).toNat:Int)=((x.toNat &&& m:Nat):Int):=by
  have e:(m:Int)=((UInt64.ofNat m).toNat:Int):=by rw [UInt64.toNat_ofNat']; omega
  rw [e,ofNat64,ofNat64]
  have h2:(x.toBitVec &&& (UInt64.ofNat m).toBitVec).toNat=x.toNat &&& m:=by
    rw [BitVec.toNat_and]
    show x.toNat &&& (UInt64.ofNat m).toNat=_
    rw [UInt64.toNat_ofNat',Nat.mod_eq_of_lt h]
  exact (congrArg (fun k:Nat=>IntKind.u64.wrap (k:Int)) h2).trans (wu64 (Nat.lt_of_le_of_lt Nat.and_le_right h))
set_option maxHeartbeats 16000000 in
theorem breakPatterns_spec {C:CallW} (hC:LeC C C) (P:Program) {c:Nat→FuncId} (h0:NpS C (c 0)) (h1:XorS C (c 1)):∀(n:Nat) (d:Array Int) (a b:Nat) S H (K:AV→St→Prop),S[n]? = some (flat iA d)→a < b→b≤d.size→d.size≤2305843009213693952→K (.tup []) ⟨S.set n (flat iA (Sort.breakPatterns d a b)),H⟩→runL C P (C_slices_breakPatternsOrdered_int64 c) [.row (.stk n) 0 d.size d.size,.s (.int .i64 a),.s (.int .i64 b)] ⟨S,H⟩ K:=by
  intro n d a b S H K hS hab hbd hdl hK
  have hn:=slt hS
  have hw0:IntKind.i64.wrap ((b:Int) - (a:Int))=((b - a:Nat):Int):=by rw [wrap_i64 (by omega) (by omega)]; omega
  have hq:IntKind.i64.wrap (((b - a:Nat):Int).tdiv 4)=(((b - a) / 4:Nat):Int):=by
    rw [show ((b - a:Nat):Int).tdiv 4=(((b - a) / 4:Nat):Int) from rfl,wrap_i64 (by omega) (by omega)]
  unfold Sort.breakPatterns at hK
  dsimp only at hK
  have hlb:b - a + a=b:=by omega
  generalize hl:b - a=l at *
  by_cases h8:8≤l
  case neg =>
    have h8':¬((8:Int)≤(l:Int)):=by omega
    rw [if_neg h8,sself hS] at hK
    simp only [C_slices_breakPatternsOrdered_int64,A_,simprocAttr,ne_eq,(U_slices_breakPatternsOrdered_int64 _).1,hw0,h8']
    exact hK
  have h8':((8:Int)≤(l:Int)):=by omega
  rw [if_pos h8] at hK
  have hcl:IntKind.u64.wrap (l:Int)=(l:Int):=wu64 (by omega)
  have hul:((UInt64.ofNat l).toNat:Int)=(l:Int):=by rw [UInt64.toNat_ofNat']; omega
  have hst:storeL 1 (.ptr (.stk S.length) 0) (.s (.int .u64 l)) ⟨S ++ [[.s (.int .u64 0)]],H⟩=some ⟨S ++ [rB (UInt64.ofNat l)],H⟩:=by
    rw [show (AV.s (.int .u64 (l:Int))) = .s (.int .u64 ((UInt64.ofNat l).toNat:Int)) by rw [hul]]
    have:=rB_store (S:=S ++ [[.s (.int .u64 0)]]) (H:=H) (m:=S.length) (r:=0) (j:=UInt64.ofNat l) (by simp [rB])
    rw [this,sapp]
  simp only [C_slices_breakPatternsOrdered_int64,A_,simprocAttr,ne_eq,(U_slices_breakPatternsOrdered_int64 _).1,hw0,h8',convL,hcl,hst]
  refine h0 l (by omega) _ _ _ ?_
  have hq2:2≤l / 4:=by omega
  have hq4:l / 4 * 4≤l:=Nat.div_mul_le_self l 4
  generalize l / 4=q at hq hq2 hq4 hK ⊢
  have b1:IntKind.i64.wrap ((q:Int) * 2)=((q * 2:Nat):Int):=by rw [wrap_i64 (by omega) (by omega)]; omega
  have b2:IntKind.i64.wrap ((a:Int) + ((q * 2:Nat):Int))=((a + q * 2:Nat):Int):=by rw [wrap_i64 (by omega) (by omega)]; omega
  obtain ⟨A2,hA2⟩:∃A2,a + q * 2=A2:=⟨_,rfl⟩
  obtain ⟨I0,hI0⟩:∃I0,A2 - 1=I0:=⟨_,rfl⟩
  obtain ⟨T,hT⟩:∃T,A2 + 1=T:=⟨_,rfl⟩
  rw [hA2] at b2 hK
  rw [hI0] at hK
  have b3:IntKind.i64.wrap ((A2:Int) - 1)=(I0:Int):=by rw [wrap_i64 (by omega) (by omega)]; omega
  have b4:IntKind.i64.wrap ((A2:Int) + 1)=(T:Int):=by rw [wrap_i64 (by omega) (by omega)]; omega
  have hp:=bitsLen_pow (x:=l) (by omega)
  have hp0:=Nat.two_pow_pos (Sort.bitsLen l)
  rw [show (1 <<< Sort.bitsLen l:Nat)=2 ^ Sort.bitsLen l by rw [Nat.shiftLeft_eq,Nat.one_mul]] at hK
  generalize hM:2 ^ Sort.bitsLen l=M at *
  have b5:IntKind.u64.wrap ((M:Int) - 1)=((M - 1:Nat):Int):=by rw [show ((M:Int) - 1)=((M - 1:Nat):Int) by omega]; exact wu64 (by omega)
  simp only [A_,simprocAttr,ne_eq,(U_slices_breakPatternsOrdered_int64 _).1,hq,b1,b2,b3]
  generalize hX:(Sort.breakStep a l M (Sort.breakStep a l M (Sort.breakStep a l M (UInt64.ofNat l,d) I0) (I0 + 1)) (I0 + 2)).2=X at hK
  have hX2:X=remS a l M 3 I0 (UInt64.ofNat l,d):=hX.symm
  clear hX
  refine loop_rule hC (α:=Nat×Nat×UInt64×Array Int) (fun x=>x.1) (fun x=>[.row (.stk n) 0 d.size d.size,.s (.int .i64 a),uu,uu,uu,uu,.s (.int .i64 l),.ptr (.stk S.length) 0,.s (.int .u64 M),.s (.int .i64 x.2.1),uu,uu,uu,uu,uu,uu,uu,uu,uu,uu,uu,uu,uu,uu,uu,uu,uu,uu,uu,uu,uu,uu,uu,uu,uu,uu,uu,uu,uu,uu,uu,uu,uu,uu,uu,uu,uu,uu,uu,uu,uu,uu,uu,uu,uu,uu,uu,uu,uu,uu,uu,uu,uu,uu,uu]) (fun x=>S.set n (flat iA x.2.2.2) ++ [rB x.2.2.1]) (fun _=>H) (fun x=>x.1 + x.2.1=I0 + 3∧x.1≤3∧x.2.2.2.size=d.size∧X=remS a l M x.1 x.2.1 x.2.2) (3,I0,UInt64.ofNat l,d) ⟨by dsimp only; omega,Nat.le_refl _,rfl,hX2⟩ (by simp [keep,zm]) (by rw [sself hS,List.take_of_length_le]; simp) rfl (fun x _=>by simp [AV.under,AV.under.go]; omega) ?_
  rintro ⟨k,ix,r,e⟩ ⟨hki,hk3,hes,hinv⟩ ih
  dsimp only at hki hk3 hes hinv ih ⊢
  have hSe:(S.set n (flat iA e) ++ [rB r])[n]? = some (flat iA e):=sappg (sset hS)
  cases k with
  | zero =>
    have h':¬((ix:Int)≤(T:Int)):=by omega
    rw [hinv] at hK
    simp only [A_,simprocAttr,ne_eq,(U_slices_breakPatternsOrdered_int64 _).1,hq,b1,b2,b4,h']
    rw [List.take_left' (by simp)]
    exact hK
  | succ k =>
    have h':((ix:Int)≤(T:Int)):=by omega
    have hwi:IntKind.i64.wrap ((ix:Int) + 1)=((ix + 1:Nat):Int):=by rw [wrap_i64 (by omega) (by omega)]; omega
    have hSr:(S.set n (flat iA e) ++ [rB r])[S.length]? = some (rB r):=by simp
    simp only [A_,simprocAttr,ne_eq,(U_slices_breakPatternsOrdered_int64 _).1,hq,b1,b2,b4,h']
    refine h1 S.length r _ _ _ hSr ?_
    have hset:∀y,(S.set n (flat iA e) ++ [rB r]).set S.length y=S.set n (flat iA e) ++ [y]:=fun y=>by simp
    rw [hset]
    obtain ⟨r2,hr2⟩:∃r2,Sort.xorNext r=r2:=⟨_,rfl⟩
    rw [hr2]
    have hand:=and64 r2 (m:=M - 1) (by omega)
    have hol:r2.toNat &&& (M - 1)≤M - 1:=Nat.and_le_right
    rw [remS] at hinv
    unfold Sort.breakStep at hinv
    rw [hr2] at hinv
    dsimp only at hinv
    generalize r2.toNat &&& (M - 1)=o at hand hol hinv
    have hco:IntKind.i64.wrap (o:Int)=(o:Int):=wrap_i64 (by omega) (by omega)
    simp only [A_,simprocAttr,ne_eq,(U_slices_breakPatternsOrdered_int64 _).1,b5,hand,convL,hco]
    by_cases hol2:l≤o
    · have ho':((l:Int)≤(o:Int)):=by omega
      rw [if_pos hol2] at hinv
      have hwo:IntKind.i64.wrap ((o:Int) - (l:Int))=((o - l:Nat):Int):=by rw [wrap_i64 (by omega) (by omega)]; omega
      have hao:IntKind.i64.wrap ((a:Int) + ((o - l:Nat):Int))=((a + (o - l):Nat):Int):=by rw [wrap_i64 (by omega) (by omega)]; omega
      have hSe2:∀y,(S.set n (flat iA e) ++ [y])[n]? = some (flat iA e):=fun y=>sappg (sset hS)
      have x1:∀kk:IntKind,indexAddrL (.sl 1) (.row (.stk n) 0 d.size d.size) (.s (.int kk (ix:Int)))=some (.ptr (.stk n) ix):=fun kk=>ixi (by omega)
      have x2:∀kk:IntKind,indexAddrL (.sl 1) (.row (.stk n) 0 d.size d.size) (.s (.int kk ((a + (o - l):Nat):Int)))=some (.ptr (.stk n) (a + (o - l))):=fun kk=>ixi (by omega)
      have r1:=ird (H:=H) (hSe2 (rB r2)) (i:=ix) (by omega)
      have r3:=ird (H:=H) (hSe2 (rB r2)) (i:=a + (o - l)) (by omega)
      have w1:=iwr (H:=H) (x:=e[a + (o - l)]!) (hSe2 (rB r2)) (i:=ix) (by omega)
      have hs1:∀z:Array Int,(S.set n (flat iA e) ++ [rB r2]).set n (flat iA z)=S.set n (flat iA z) ++ [rB r2]:=fun z=>by rw [List.set_append_left _ _ (by simp; exact hn),List.set_set]
      rw [hs1] at w1
      have hS2:(S.set n (flat iA (e.setIfInBounds ix e[a + (o - l)]!)) ++ [rB r2])[n]? = some (flat iA (e.setIfInBounds ix e[a + (o - l)]!)):=sappg (sset hS)
      have w2:=iwr (H:=H) (x:=e[ix]!) hS2 (i:=a + (o - l)) (by simp; omega)
      have hs2:∀z y:Array Int,(S.set n (flat iA y) ++ [rB r2]).set n (flat iA z)=S.set n (flat iA z) ++ [rB r2]:=fun z y=>by rw [List.set_append_left _ _ (by simp; exact hn),List.set_set]
      rw [hs2] at w2
      simp only [A_,simprocAttr,ne_eq,(U_slices_breakPatternsOrdered_int64 _).1,ho',hwo,hao,x1,x2,r1,r3,w1,w2,hwi]
      exact ih (k,ix + 1,r2,Sort.swp e ix (a + (o - l))) _ _ _ (by dsimp only; omega) ⟨by dsimp only; omega,by dsimp only; omega,by rw [swp_size]; exact hes,hinv⟩ (by simp [keep,zm]) (by rw [List.take_of_length_le]; rfl; simp) rfl
    · have ho':¬((l:Int)≤(o:Int)):=by omega
      rw [if_neg hol2] at hinv
      have hwo:True:=trivial
      have hao:IntKind.i64.wrap ((a:Int) + (o:Int))=((a + o:Nat):Int):=by rw [wrap_i64 (by omega) (by omega)]; omega
      have hSe2:∀y,(S.set n (flat iA e) ++ [y])[n]? = some (flat iA e):=fun y=>sappg (sset hS)
      have x1:∀kk:IntKind,indexAddrL (.sl 1) (.row (.stk n) 0 d.size d.size) (.s (.int kk (ix:Int)))=some (.ptr (.stk n) ix):=fun kk=>ixi (by omega)
      have x2:∀kk:IntKind,indexAddrL (.sl 1) (.row (.stk n) 0 d.size d.size) (.s (.int kk ((a + o:Nat):Int)))=some (.ptr (.stk n) (a + o)):=fun kk=>ixi (by omega)
      have r1:=ird (H:=H) (hSe2 (rB r2)) (i:=ix) (by omega)
      have r3:=ird (H:=H) (hSe2 (rB r2)) (i:=a + o) (by omega)
      have w1:=iwr (H:=H) (x:=e[a + o]!) (hSe2 (rB r2)) (i:=ix) (by omega)
      have hs1:∀z:Array Int,(S.set n (flat iA e) ++ [rB r2]).set n (flat iA z)=S.set n (flat iA z) ++ [rB r2]:=fun z=>by rw [List.set_append_left _ _ (by simp; exact hn),List.set_set]
      rw [hs1] at w1
      have hS2:(S.set n (flat iA (e.setIfInBounds ix e[a + o]!)) ++ [rB r2])[n]? = some (flat iA (e.setIfInBounds ix e[a + o]!)):=sappg (sset hS)
      have w2:=iwr (H:=H) (x:=e[ix]!) hS2 (i:=a + o) (by simp; omega)
      have hs2:∀z y:Array Int,(S.set n (flat iA y) ++ [rB r2]).set n (flat iA z)=S.set n (flat iA z) ++ [rB r2]:=fun z y=>by rw [List.set_append_left _ _ (by simp; exact hn),List.set_set]
      rw [hs2] at w2
      simp only [A_,simprocAttr,ne_eq,(U_slices_breakPatternsOrdered_int64 _).1,ho',hwo,hao,x1,x2,r1,r3,w1,w2,hwi]
      exact ih (k,ix + 1,r2,Sort.swp e ix (a + o)) _ _ _ (by dsimp only; omega) ⟨by dsimp only; omega,by dsimp only; omega,by rw [swp_size]; exact hes,hinv⟩ (by simp [keep,zm]) (by rw [List.take_of_length_le]; rfl; simp) rfl
end Go.AM
namespace Go.AM
open Go
open AV renaming undef → uu
set_option maxRecDepth 20000
theorem sw2 {S:List (List AV)} {H:List HObj} {n i j:Nat} {d:Array Int} (hS:S[n]? = some (flat iA d)) (hi:i < d.size) (hj:j < d.size):storeL 1 (.ptr (.stk n) i) (.s (.int .i64 d[j]!)) ⟨S,H⟩=some ⟨S.set n (flat iA (d.setIfInBounds i d[j]!)),H⟩∧storeL 1 (.ptr (.stk n) j) (.s (.int .i64 d[i]!)) ⟨S.set n (flat iA (d.setIfInBounds i d[j]!)),H⟩=some ⟨S.set n (flat iA (Sort.swp d i j)),H⟩:=by
  refine ⟨iwr hS hi,?_⟩
  have:=iwr (H:=H) (x:=d[i]!) (sset hS (y:=flat iA (d.setIfInBounds i d[j]!))) (i:=j) (by simpa using hj)
  rw [List.set_set] at this
  exact this
set_option maxHeartbeats 16000000 in
theorem y9q2_loop {C:CallW} (hC:LeC C C) (P:Program) {c:Nat→FuncId} (h0:LessS C (c 0)) {n a j N n0:Nat} {e:Array Int} {S:List (List AV)} {H:List HObj} {is:List Item} {K:KC} (hS:S[n]? = some (flat iA e)) (hn0:n0=S.length) (hN:e.size=N) (ha:a < N) (hj:j < N) (hl:N≤2305843009213693952):∀(i:Nat) (fr:Fr),i≤j + 2→keep (zm false [0,2,7,2,73]) fr=[.row (.stk n) 0 N N,.s (.int .i64 a),uu,uu,uu,uu,uu,uu,uu,.s (.int .i64 (i:Nat)),.s (.int .i64 (j:Nat)),uu,uu,uu,uu,uu,uu,uu,uu,uu,uu,uu,uu,uu,uu,uu,uu,uu,uu,uu,uu,uu,uu,uu,uu,uu,uu,uu,uu,uu,uu,uu,uu,uu,uu,uu,uu,uu,uu,uu,uu,uu,uu,uu,uu,uu,uu,uu,uu,uu,uu,uu,uu,uu,uu,uu,uu,uu,uu,uu,uu,uu,uu,uu,uu,uu,uu,uu,uu,uu,uu,uu,uu,uu]→(∀fr',keep (zm false [0,2,7,2,73]) fr'=[.row (.stk n) 0 N N,.s (.int .i64 a),uu,uu,uu,uu,uu,uu,uu,.s (.int .i64 (Sort.scanUp (fun x => !ltI e[a]! x) e j i:Nat)),.s (.int .i64 (j:Nat)),uu,uu,uu,uu,uu,uu,uu,uu,uu,uu,uu,uu,uu,uu,uu,uu,uu,uu,uu,uu,uu,uu,uu,uu,uu,uu,uu,uu,uu,uu,uu,uu,uu,uu,uu,uu,uu,uu,uu,uu,uu,uu,uu,uu,uu,uu,uu,uu,uu,uu,uu,uu,uu,uu,uu,uu,uu,uu,uu,uu,uu,uu,uu,uu,uu,uu,uu,uu,uu,uu,uu,uu,uu]→nxt C P false is fr' ⟨S,H⟩ K)→runLp C P false (zm false [0,2,7,2,73]) (y9q2 c) n0 (.blk 2 :: is) fr ⟨S,H⟩ K:=by
  intro i fr hi hk hX
  generalize hR:Sort.scanUp (fun x => !ltI e[a]! x) e j i=R at hX
  subst hn0
  have hn:=slt hS
  refine loop_rule hC (α:=Nat) (fun x=>j + 2 - x) (fun x=>[.row (.stk n) 0 N N,.s (.int .i64 a),uu,uu,uu,uu,uu,uu,uu,.s (.int .i64 (x:Nat)),.s (.int .i64 (j:Nat)),uu,uu,uu,uu,uu,uu,uu,uu,uu,uu,uu,uu,uu,uu,uu,uu,uu,uu,uu,uu,uu,uu,uu,uu,uu,uu,uu,uu,uu,uu,uu,uu,uu,uu,uu,uu,uu,uu,uu,uu,uu,uu,uu,uu,uu,uu,uu,uu,uu,uu,uu,uu,uu,uu,uu,uu,uu,uu,uu,uu,uu,uu,uu,uu,uu,uu,uu,uu,uu,uu,uu,uu,uu]) (fun _=>S) (fun _=>H) (fun x=>x≤j + 2∧R=Sort.scanUp (fun x => !ltI e[a]! x) e j x) i ⟨hi,hR.symm⟩ hk (by rw [List.take_of_length_le (Nat.le_refl _)]) rfl (fun x _=>by simp [AV.under,AV.under.go,hn]) ?_
  rintro x ⟨hx,hinv⟩ ih
  by_cases hxj:x≤j
  case neg =>
    have hlt:¬((x:Int)≤(j:Int)):=by omega
    rw [Sort.scanUp,if_neg (by rw [Bool.and_eq_true,decide_eq_true_eq]; exact fun h=>hxj h.1)] at hinv
    rw [hinv] at hX
    simp only [C_slices_partitionEqualOrdered_int64,A_,simprocAttr,ne_eq,(U_slices_partitionEqualOrdered_int64 _).1,hlt]
    exact hX _ (by simp [keep,zm])
  have hlt:((x:Int)≤(j:Int)):=by omega
  have hw1:IntKind.i64.wrap ((x:Int) + 1)=((x + 1:Nat):Int):=by rw [wrap_i64 (by omega) (by omega)]; omega
  have x1:∀kk:IntKind,indexAddrL (.sl 1) (.row (.stk n) 0 N N) (.s (.int kk (x:Int)))=some (.ptr (.stk n) x):=fun kk=>ixi (by omega)
  have x2:∀kk:IntKind,indexAddrL (.sl 1) (.row (.stk n) 0 N N) (.s (.int kk (a:Int)))=some (.ptr (.stk n) a):=fun kk=>ixi (by omega)
  have r1:=ird (H:=H) hS (i:=x) (by omega)
  have r2:=ird (H:=H) hS (i:=a) (by omega)
  simp only [C_slices_partitionEqualOrdered_int64,A_,simprocAttr,ne_eq,(U_slices_partitionEqualOrdered_int64 _).1,hlt,x1,x2,r1,r2]
  refine h0 _ _ _ _ _ ?_
  cases hlk:ltI e[a]! e[x]! with
  | true =>
    rw [Sort.scanUp,if_neg (by rw [Bool.and_eq_true,hlk]; simp)] at hinv
    rw [hinv] at hX
    simp only [C_slices_partitionEqualOrdered_int64,A_,simprocAttr,ne_eq,(U_slices_partitionEqualOrdered_int64 _).1]
    exact hX _ (by simp [keep,zm])
  | false =>
    rw [Sort.scanUp,if_pos (by rw [Bool.and_eq_true,hlk]; exact ⟨decide_eq_true hxj,rfl⟩)] at hinv
    simp only [C_slices_partitionEqualOrdered_int64,A_,simprocAttr,ne_eq,(U_slices_partitionEqualOrdered_int64 _).1,hw1]
    exact ih (x + 1) _ _ _ (by omega) ⟨by omega,hinv⟩ (by simp [keep,zm]) (by rw [List.take_of_length_le (Nat.le_refl _)]) rfl
set_option maxHeartbeats 16000000 in
theorem y9q4_loop {C:CallW} (hC:LeC C C) (P:Program) {c:Nat→FuncId} (h0:LessS C (c 0)) {n a i N n0:Nat} {e:Array Int} {S:List (List AV)} {H:List HObj} {is:List Item} {K:KC} (hS:S[n]? = some (flat iA e)) (hn0:n0=S.length) (hN:e.size=N) (ha:a < N) (hi:1≤i) (hl:N≤2305843009213693952):∀(j:Nat) (fr:Fr),j < N→keep (zm false [0,2,7,2,73]) fr=[.row (.stk n) 0 N N,.s (.int .i64 a),uu,uu,uu,uu,uu,uu,uu,.s (.int .i64 (i:Nat)),.s (.int .i64 (j:Nat)),uu,uu,uu,uu,uu,uu,uu,uu,uu,uu,uu,uu,uu,uu,uu,uu,uu,uu,uu,uu,uu,uu,uu,uu,uu,uu,uu,uu,uu,uu,uu,uu,uu,uu,uu,uu,uu,uu,uu,uu,uu,uu,uu,uu,uu,uu,uu,uu,uu,uu,uu,uu,uu,uu,uu,uu,uu,uu,uu,uu,uu,uu,uu,uu,uu,uu,uu,uu,uu,uu,uu,uu,uu]→(∀x46 x47 x48 x49 x50 x51 x52 x53 x54 x55 x56 x57 x58 x59:AV,nxt C P false is [.row (.stk n) 0 N N,.s (.int .i64 a),uu,uu,uu,uu,uu,uu,uu,.s (.int .i64 (i:Nat)),.s (.int .i64 (Sort.scanDown (fun x=>ltI e[a]! x) e i j:Nat)),uu,uu,uu,uu,uu,uu,uu,uu,uu,uu,uu,uu,uu,uu,uu,uu,uu,uu,uu,uu,uu,uu,uu,uu,uu,uu,uu,uu,uu,uu,uu,uu,uu,uu,uu,x46,x47,x48,x49,x50,x51,x52,x53,x54,x55,x56,x57,x58,x59,uu,uu,uu,uu,uu,uu,uu,uu,uu,uu,uu,uu,uu,uu,uu,uu,uu,uu,uu,uu,uu,uu,uu,uu] ⟨S,H⟩ K)→runLp C P false (zm false [0,2,7,2,73]) (y9q4 c) n0 (.blk 4 :: is) fr ⟨S,H⟩ K:=by
  intro j fr hj hk hX
  generalize hR:Sort.scanDown (fun x=>ltI e[a]! x) e i j=R at hX
  subst hn0
  have hn:=slt hS
  refine loop_rule hC (α:=Nat) (fun x=>x) (fun x=>[.row (.stk n) 0 N N,.s (.int .i64 a),uu,uu,uu,uu,uu,uu,uu,.s (.int .i64 (i:Nat)),.s (.int .i64 (x:Nat)),uu,uu,uu,uu,uu,uu,uu,uu,uu,uu,uu,uu,uu,uu,uu,uu,uu,uu,uu,uu,uu,uu,uu,uu,uu,uu,uu,uu,uu,uu,uu,uu,uu,uu,uu,uu,uu,uu,uu,uu,uu,uu,uu,uu,uu,uu,uu,uu,uu,uu,uu,uu,uu,uu,uu,uu,uu,uu,uu,uu,uu,uu,uu,uu,uu,uu,uu,uu,uu,uu,uu,uu,uu]) (fun _=>S) (fun _=>H) (fun x=>x < N∧R=Sort.scanDown (fun x=>ltI e[a]! x) e i x) j ⟨hj,hR.symm⟩ hk (by rw [List.take_of_length_le (Nat.le_refl _)]) rfl (fun x _=>by simp [AV.under,AV.under.go,hn]) ?_
  rintro x ⟨hx,hinv⟩ ih
  by_cases hxj:i≤x
  case neg =>
    have hlt:¬((i:Int)≤(x:Int)):=by omega
    have hq:Sort.scanDown (fun x=>ltI e[a]! x) e i x=x:=by
      cases x with
      | zero=>rfl
      | succ x=>rw [Sort.scanDown,if_neg (by rw [Bool.and_eq_true,decide_eq_true_eq]; exact fun h=>hxj h.1)]
    rw [hinv,hq] at hX
    simp only [C_slices_partitionEqualOrdered_int64,A_,simprocAttr,ne_eq,(U_slices_partitionEqualOrdered_int64 _).1,hlt]
    exact hX _ _ _ _ _ _ _ _ _ _ _ _ _ _
  obtain ⟨y,rfl⟩:∃y,x=y + 1:=⟨x - 1,by omega⟩
  have hlt:((i:Int)≤((y + 1:Nat):Int)):=by omega
  have hw1:IntKind.i64.wrap (((y + 1:Nat):Int) - 1)=((y:Nat):Int):=by rw [wrap_i64 (by omega) (by omega)]; omega
  have x1:∀kk:IntKind,indexAddrL (.sl 1) (.row (.stk n) 0 N N) (.s (.int kk ((y + 1:Nat):Int)))=some (.ptr (.stk n) (y + 1)):=fun kk=>ixi (by omega)
  have x2:∀kk:IntKind,indexAddrL (.sl 1) (.row (.stk n) 0 N N) (.s (.int kk (a:Int)))=some (.ptr (.stk n) a):=fun kk=>ixi (by omega)
  have r1:=ird (H:=H) hS (i:=y + 1) (by omega)
  have r2:=ird (H:=H) hS (i:=a) (by omega)
  simp only [C_slices_partitionEqualOrdered_int64,A_,simprocAttr,ne_eq,(U_slices_partitionEqualOrdered_int64 _).1,hlt,x1,x2,r1,r2]
  refine h0 _ _ _ _ _ ?_
  cases hlk:ltI e[a]! e[y + 1]! with
  | false =>
    rw [Sort.scanDown,if_neg (by rw [Bool.and_eq_true,hlk]; simp)] at hinv
    rw [hinv] at hX
    simp only [C_slices_partitionEqualOrdered_int64,A_,simprocAttr,ne_eq,(U_slices_partitionEqualOrdered_int64 _).1]
    exact hX _ _ _ _ _ _ _ _ _ _ _ _ _ _
  | true =>
    rw [Sort.scanDown,if_pos (by rw [Bool.and_eq_true,hlk]; exact ⟨decide_eq_true hxj,rfl⟩)] at hinv
    simp only [C_slices_partitionEqualOrdered_int64,A_,simprocAttr,ne_eq,(U_slices_partitionEqualOrdered_int64 _).1,hw1]
    exact ih y _ _ _ (by omega) ⟨by omega,hinv⟩ (by simp [keep,zm]) (by rw [List.take_of_length_le (Nat.le_refl _)]) rfl
theorem scanUp_bd (p:Int→Bool) (d:Array Int) (j:Nat):∀(m i:Nat),j + 1 - i≤m→i≤Sort.scanUp p d j i∧(Sort.scanUp p d j i≤j + 1∨Sort.scanUp p d j i=i):=by
  intro m
  induction m with
  | zero =>
    intro i h
    have:¬((decide (i≤j) && p d[i]!)=true):=by rw [Bool.and_eq_true,decide_eq_true_eq]; exact fun h=>by omega
    rw [Sort.scanUp,if_neg this]
    exact ⟨Nat.le_refl _,.inr rfl⟩
  | succ m ih =>
    intro i h
    rw [Sort.scanUp]
    split
    · rename_i h1
      rw [Bool.and_eq_true,decide_eq_true_eq] at h1
      obtain ⟨q1,q2⟩:=ih (i + 1) (by omega)
      refine ⟨by omega,.inl ?_⟩
      omega
    · exact ⟨Nat.le_refl _,.inr rfl⟩
theorem scanDown_le (p:Int→Bool) (d:Array Int) (i:Nat):∀j:Nat,Sort.scanDown p d i j≤j
  | 0=>Nat.le_refl _
  | j + 1=>by
    rw [Sort.scanDown]
    split
    · exact Nat.le_trans (scanDown_le p d i j) (Nat.le_succ _)
    · exact Nat.le_refl _
def PeqS (C:CallW) (f:FuncId):Prop:=∀(n:Nat) (d:Array Int) (a b p:Nat) S H (K:AV→St→Prop),S[n]? = some (flat iA d)→a≤p→p < b→b≤d.size→d.size≤2305843009213693952→K (.s (.int .i64 (Sort.partitionEqual ltI d a b p).1)) ⟨S.set n (flat iA (Sort.partitionEqual ltI d a b p).2),H⟩→C (.fn f) [.row (.stk n) 0 d.size d.size,.s (.int .i64 a),.s (.int .i64 b),.s (.int .i64 p)] ⟨S,H⟩ K
set_option maxHeartbeats 16000000 in
theorem partitionEqual_spec {C:CallW} (hC:LeC C C) (P:Program) {c:Nat→FuncId} (h0:LessS C (c 0)):∀(n:Nat) (d:Array Int) (a b p:Nat) S H (K:AV→St→Prop),S[n]? = some (flat iA d)→a≤p→p < b→b≤d.size→d.size≤2305843009213693952→K (.s (.int .i64 (Sort.partitionEqual ltI d a b p).1)) ⟨S.set n (flat iA (Sort.partitionEqual ltI d a b p).2),H⟩→runL C P (C_slices_partitionEqualOrdered_int64 c) [.row (.stk n) 0 d.size d.size,.s (.int .i64 a),.s (.int .i64 b),.s (.int .i64 p)] ⟨S,H⟩ K:=by
  intro n d a b p S H K hS hap hpb hbd hdl hK
  have hn:=slt hS
  unfold Sort.partitionEqual at hK
  have hw0:IntKind.i64.wrap ((a:Int) + 1)=((a + 1:Nat):Int):=by rw [wrap_i64 (by omega) (by omega)]; omega
  have hw1:IntKind.i64.wrap ((b:Int) - 1)=((b - 1:Nat):Int):=by rw [wrap_i64 (by omega) (by omega)]; omega
  have x1:∀kk:IntKind,indexAddrL (.sl 1) (.row (.stk n) 0 d.size d.size) (.s (.int kk (a:Int)))=some (.ptr (.stk n) a):=fun kk=>ixi (by omega)
  have x2:∀kk:IntKind,indexAddrL (.sl 1) (.row (.stk n) 0 d.size d.size) (.s (.int kk (p:Int)))=some (.ptr (.stk n) p):=fun kk=>ixi (by omega)
  have r1:=ird (H:=H) hS (i:=a) (by omega)
  have r2:=ird (H:=H) hS (i:=p) (by omega)
  obtain ⟨w1,w2⟩:=sw2 (H:=H) hS (i:=a) (j:=p) (by omega) (by omega)
  simp only [C_slices_partitionEqualOrdered_int64,A_,simprocAttr,ne_eq,(U_slices_partitionEqualOrdered_int64 _).1,hw0,hw1,x1,x2,r1,r2,w1,w2]
  have hds:(Sort.swp d a p).size=d.size:=swp_size
  generalize Sort.swp d a p=d1 at hK hds ⊢
  clear x1 x2 r1 r2 w1 w2
  generalize hX:Sort.partEqLoop ltI a (a + 1) (b - 1) d1=X at hK
  refine loop_rule hC (α:=Nat×Nat×Array Int) (fun x=>x.2.1 + 1 - x.1) (fun x=>[.row (.stk n) 0 d.size d.size,.s (.int .i64 a),uu,uu,uu,uu,uu,uu,uu,.s (.int .i64 (x.1:Nat)),.s (.int .i64 (x.2.1:Nat)),uu,uu,uu,uu,uu,uu,uu,uu,uu,uu,uu,uu,uu,uu,uu,uu,uu,uu,uu,uu,uu,uu,uu,uu,uu,uu,uu,uu,uu,uu,uu,uu,uu,uu,uu,uu,uu,uu,uu,uu,uu,uu,uu,uu,uu,uu,uu,uu,uu,uu,uu,uu,uu,uu,uu,uu,uu,uu,uu,uu,uu,uu,uu,uu,uu,uu,uu,uu,uu,uu,uu,uu,uu]) (fun x=>S.set n (flat iA x.2.2)) (fun _=>H) (fun x=>1≤x.1∧x.1≤x.2.1 + 2∧x.2.1 < d.size∧x.2.2.size=d.size∧X=Sort.partEqLoop ltI a x.1 x.2.1 x.2.2) (a + 1,b - 1,d1) ⟨by dsimp only; omega,by dsimp only; omega,by dsimp only; omega,hds,hX.symm⟩ (by simp [keep,zm]) (by rw [List.take_of_length_le]; simp) rfl (fun x _=>by simp [AV.under,AV.under.go,hn]) ?_
  rintro ⟨i,j,e⟩ ⟨h1,h2,hj,hes,hinv⟩ ih
  dsimp only at h1 h2 hj hes hinv ih ⊢
  simp only [C_slices_partitionEqualOrdered_int64,A_,simprocAttr,ne_eq,(U_slices_partitionEqualOrdered_int64 _).1]
  refine y9q2_loop (a:=a) hC P h0 (sset hS) (by simp) hes (by omega) hj hdl i _ h2 (by simp [keep,zm]) fun fr' hk' => ?_
  simp only [C_slices_partitionEqualOrdered_int64,A_,simprocAttr,ne_eq,(U_slices_partitionEqualOrdered_int64 _).1]
  obtain ⟨u1,u2⟩:=scanUp_bd (fun x => !ltI e[a]! x) e j _ i (Nat.le_refl _)
  obtain ⟨i2,hi2⟩:∃i2,Sort.scanUp (fun x => !ltI e[a]! x) e j i=i2:=⟨_,rfl⟩
  rw [hi2] at hk' u1 u2
  refine y9q4_loop (a:=a) hC P h0 (sset hS) (by simp) hes (by omega) (by omega) hdl j _ hj hk' ?_
  have v1:=scanDown_le (fun x=>ltI e[a]! x) e i2 j
  obtain ⟨j2,hj2⟩:∃j2,Sort.scanDown (fun x=>ltI e[a]! x) e i2 j=j2:=⟨_,rfl⟩
  rw [hj2] at v1 ⊢
  intro x46 x47 x48 x49 x50 x51 x52 x53 x54 x55 x56 x57 x58 x59
  rw [Sort.partEqLoop] at hinv
  simp only [hi2,hj2] at hinv
  by_cases hij:j2 < i2
  · have hlt:((j2:Int) < (i2:Int)):=by omega
    rw [if_pos hij] at hinv
    rw [hinv] at hK
    simp only [C_slices_partitionEqualOrdered_int64,A_,simprocAttr,ne_eq,(U_slices_partitionEqualOrdered_int64 _).1,hlt]
    exact hK
  have hlt:¬((j2:Int) < (i2:Int)):=by omega
  rw [if_neg hij,dif_pos (by omega)] at hinv
  have hwi:IntKind.i64.wrap ((i2:Int) + 1)=((i2 + 1:Nat):Int):=by rw [wrap_i64 (by omega) (by omega)]; omega
  have hwj:IntKind.i64.wrap ((j2:Int) - 1)=((j2 - 1:Nat):Int):=by rw [wrap_i64 (by omega) (by omega)]; omega
  have x1:∀kk:IntKind,indexAddrL (.sl 1) (.row (.stk n) 0 d.size d.size) (.s (.int kk (i2:Int)))=some (.ptr (.stk n) i2):=fun kk=>ixi (by omega)
  have x2:∀kk:IntKind,indexAddrL (.sl 1) (.row (.stk n) 0 d.size d.size) (.s (.int kk (j2:Int)))=some (.ptr (.stk n) j2):=fun kk=>ixi (by omega)
  have hSe:(S.set n (flat iA e))[n]? = some (flat iA e):=sset hS
  have r1:=ird (H:=H) hSe (i:=i2) (by omega)
  have r2:=ird (H:=H) hSe (i:=j2) (by omega)
  obtain ⟨w1,w2⟩:=sw2 (H:=H) hSe (i:=i2) (j:=j2) (by omega) (by omega)
  rw [List.set_set] at w1 w2
  rw [List.set_set] at w2
  simp only [C_slices_partitionEqualOrdered_int64,A_,simprocAttr,ne_eq,(U_slices_partitionEqualOrdered_int64 _).1,hlt,x1,x2,r1,r2,w1,w2,hwi,hwj]
  exact ih (i2 + 1,j2 - 1,Sort.swp e i2 j2) _ _ _ (by dsimp only; omega) ⟨by dsimp only; omega,by dsimp only; omega,by dsimp only; omega,by rw [swp_size]; exact hes,hinv⟩ (by simp [keep,zm]) (by rw [List.take_of_length_le]; simp) rfl
end Go.AM
namespace Go.AM
open Go
open AV renaming undef → uu
set_option maxRecDepth 20000
set_option maxHeartbeats 16000000 in
theorem y9r2_loop {C:CallW} (hC:LeC C C) (P:Program) {c:Nat→FuncId} (h0:LessS C (c 0)) {n a j N n0:Nat} {e:Array Int} {S:List (List AV)} {H:List HObj} {is:List Item} {K:KC} (hS:S[n]? = some (flat iA e)) (hn0:n0=S.length) (hN:e.size=N) (ha:a < N) (hj:j < N) (hl:N≤2305843009213693952):∀(i:Nat) (fr:Fr),i≤j + 2→keep (zm false [0,2,8,2,156]) fr=[.row (.stk n) 0 N N,.s (.int .i64 a),uu,uu,uu,uu,uu,uu,uu,uu,.s (.int .i64 (i:Nat)),.s (.int .i64 (j:Nat)),uu,uu,uu,uu,uu,uu,uu,uu,uu,uu,uu,uu,uu,uu,uu,uu,uu,uu,uu,uu,uu,uu,uu,uu,uu,uu,uu,uu,uu,uu,uu,uu,uu,uu,uu,uu,uu,uu,uu,uu,uu,uu,uu,uu,uu,uu,uu,uu,uu,uu,uu,uu,uu,uu,uu,uu,uu,uu,uu,uu,uu,uu,uu,uu,uu,uu,uu,uu,uu,uu,uu,uu,uu,uu,uu,uu,uu,uu,uu,uu,uu,uu,uu,uu,uu,uu,uu,uu,uu,uu,uu,uu,uu,uu,uu,uu,uu,uu,uu,uu,uu,uu,uu,uu,uu,uu,uu,uu,uu,uu,uu,uu,uu,uu,uu,uu,uu,uu,uu,uu,uu,uu,uu,uu,uu,uu,uu,uu,uu,uu,uu,uu,uu,uu,uu,uu,uu,uu,uu,uu,uu,uu,uu,uu,uu,uu,uu,uu,uu,uu,uu,uu,uu,uu,uu,uu]→(∀fr',keep (zm false [0,2,8,2,156]) fr'=[.row (.stk n) 0 N N,.s (.int .i64 a),uu,uu,uu,uu,uu,uu,uu,uu,.s (.int .i64 (Sort.scanUp (fun x=>ltI x e[a]!) e j i:Nat)),.s (.int .i64 (j:Nat)),uu,uu,uu,uu,uu,uu,uu,uu,uu,uu,uu,uu,uu,uu,uu,uu,uu,uu,uu,uu,uu,uu,uu,uu,uu,uu,uu,uu,uu,uu,uu,uu,uu,uu,uu,uu,uu,uu,uu,uu,uu,uu,uu,uu,uu,uu,uu,uu,uu,uu,uu,uu,uu,uu,uu,uu,uu,uu,uu,uu,uu,uu,uu,uu,uu,uu,uu,uu,uu,uu,uu,uu,uu,uu,uu,uu,uu,uu,uu,uu,uu,uu,uu,uu,uu,uu,uu,uu,uu,uu,uu,uu,uu,uu,uu,uu,uu,uu,uu,uu,uu,uu,uu,uu,uu,uu,uu,uu,uu,uu,uu,uu,uu,uu,uu,uu,uu,uu,uu,uu,uu,uu,uu,uu,uu,uu,uu,uu,uu,uu,uu,uu,uu,uu,uu,uu,uu,uu,uu,uu,uu,uu,uu,uu,uu,uu,uu,uu,uu,uu,uu,uu,uu,uu,uu,uu]→nxt C P false is fr' ⟨S,H⟩ K)→runLp C P false (zm false [0,2,8,2,156]) (y9r2 c) n0 (.blk 0 :: is) fr ⟨S,H⟩ K:=by
  intro i fr hi hk hX
  generalize hR:Sort.scanUp (fun x=>ltI x e[a]!) e j i=R at hX
  subst hn0
  have hn:=slt hS
  refine loop_rule hC (α:=Nat) (fun x=>j + 2 - x) (fun x=>[.row (.stk n) 0 N N,.s (.int .i64 a),uu,uu,uu,uu,uu,uu,uu,uu,.s (.int .i64 (x:Nat)),.s (.int .i64 (j:Nat)),uu,uu,uu,uu,uu,uu,uu,uu,uu,uu,uu,uu,uu,uu,uu,uu,uu,uu,uu,uu,uu,uu,uu,uu,uu,uu,uu,uu,uu,uu,uu,uu,uu,uu,uu,uu,uu,uu,uu,uu,uu,uu,uu,uu,uu,uu,uu,uu,uu,uu,uu,uu,uu,uu,uu,uu,uu,uu,uu,uu,uu,uu,uu,uu,uu,uu,uu,uu,uu,uu,uu,uu,uu,uu,uu,uu,uu,uu,uu,uu,uu,uu,uu,uu,uu,uu,uu,uu,uu,uu,uu,uu,uu,uu,uu,uu,uu,uu,uu,uu,uu,uu,uu,uu,uu,uu,uu,uu,uu,uu,uu,uu,uu,uu,uu,uu,uu,uu,uu,uu,uu,uu,uu,uu,uu,uu,uu,uu,uu,uu,uu,uu,uu,uu,uu,uu,uu,uu,uu,uu,uu,uu,uu,uu,uu,uu,uu,uu,uu,uu,uu,uu,uu,uu,uu,uu]) (fun _=>S) (fun _=>H) (fun x=>x≤j + 2∧R=Sort.scanUp (fun x=>ltI x e[a]!) e j x) i ⟨hi,hR.symm⟩ hk (by rw [List.take_of_length_le (Nat.le_refl _)]) rfl (fun x _=>by simp [AV.under,AV.under.go,hn]) ?_
  rintro x ⟨hx,hinv⟩ ih
  by_cases hxj:x≤j
  case neg =>
    have hlt:¬((x:Int)≤(j:Int)):=by omega
    rw [Sort.scanUp,if_neg (by rw [Bool.and_eq_true,decide_eq_true_eq]; exact fun h=>hxj h.1)] at hinv
    rw [hinv] at hX
    simp only [C_slices_partitionOrdered_int64,A_,simprocAttr,ne_eq,(U_slices_partitionOrdered_int64 _).1,hlt]
    exact hX _ (by simp [keep,zm])
  have hlt:((x:Int)≤(j:Int)):=by omega
  have hw1:IntKind.i64.wrap ((x:Int) + 1)=((x + 1:Nat):Int):=by rw [wrap_i64 (by omega) (by omega)]; omega
  have x1:∀kk:IntKind,indexAddrL (.sl 1) (.row (.stk n) 0 N N) (.s (.int kk (x:Int)))=some (.ptr (.stk n) x):=fun kk=>ixi (by omega)
  have x2:∀kk:IntKind,indexAddrL (.sl 1) (.row (.stk n) 0 N N) (.s (.int kk (a:Int)))=some (.ptr (.stk n) a):=fun kk=>ixi (by omega)
  have r1:=ird (H:=H) hS (i:=x) (by omega)
  have r2:=ird (H:=H) hS (i:=a) (by omega)
  simp only [C_slices_partitionOrdered_int64,A_,simprocAttr,ne_eq,(U_slices_partitionOrdered_int64 _).1,hlt,x1,x2,r1,r2]
  refine h0 _ _ _ _ _ ?_
  cases hlk:ltI e[x]! e[a]! with
  | false =>
    rw [Sort.scanUp,if_neg (by rw [Bool.and_eq_true,hlk]; simp)] at hinv
    rw [hinv] at hX
    simp only [C_slices_partitionOrdered_int64,A_,simprocAttr,ne_eq,(U_slices_partitionOrdered_int64 _).1]
    exact hX _ (by simp [keep,zm])
  | true =>
    rw [Sort.scanUp,if_pos (by rw [Bool.and_eq_true,hlk]; exact ⟨decide_eq_true hxj,rfl⟩)] at hinv
    simp only [C_slices_partitionOrdered_int64,A_,simprocAttr,ne_eq,(U_slices_partitionOrdered_int64 _).1,hw1]
    exact ih (x + 1) _ _ _ (by omega) ⟨by omega,hinv⟩ (by simp [keep,zm]) (by rw [List.take_of_length_le (Nat.le_refl _)]) rfl
set_option maxHeartbeats 16000000 in
theorem y9r4_loop {C:CallW} (hC:LeC C C) (P:Program) {c:Nat→FuncId} (h0:LessS C (c 0)) {n a i N n0:Nat} {e:Array Int} {S:List (List AV)} {H:List HObj} {is:List Item} {K:KC} (hS:S[n]? = some (flat iA e)) (hn0:n0=S.length) (hN:e.size=N) (ha:a < N) (hi:1≤i) (hl:N≤2305843009213693952):∀(j:Nat) (fr:Fr),j < N→keep (zm false [0,2,8,2,156]) fr=[.row (.stk n) 0 N N,.s (.int .i64 a),uu,uu,uu,uu,uu,uu,uu,uu,.s (.int .i64 (i:Nat)),.s (.int .i64 (j:Nat)),uu,uu,uu,uu,uu,uu,uu,uu,uu,uu,uu,uu,uu,uu,uu,uu,uu,uu,uu,uu,uu,uu,uu,uu,uu,uu,uu,uu,uu,uu,uu,uu,uu,uu,uu,uu,uu,uu,uu,uu,uu,uu,uu,uu,uu,uu,uu,uu,uu,uu,uu,uu,uu,uu,uu,uu,uu,uu,uu,uu,uu,uu,uu,uu,uu,uu,uu,uu,uu,uu,uu,uu,uu,uu,uu,uu,uu,uu,uu,uu,uu,uu,uu,uu,uu,uu,uu,uu,uu,uu,uu,uu,uu,uu,uu,uu,uu,uu,uu,uu,uu,uu,uu,uu,uu,uu,uu,uu,uu,uu,uu,uu,uu,uu,uu,uu,uu,uu,uu,uu,uu,uu,uu,uu,uu,uu,uu,uu,uu,uu,uu,uu,uu,uu,uu,uu,uu,uu,uu,uu,uu,uu,uu,uu,uu,uu,uu,uu,uu,uu,uu,uu,uu,uu,uu,uu]→(∀x46 x47 x48 x49 x50 x51 x52 x53 x54 x55 x56 x57 x58 x59 x60:AV,nxt C P false is [.row (.stk n) 0 N N,.s (.int .i64 a),uu,uu,uu,uu,uu,uu,uu,uu,.s (.int .i64 (i:Nat)),.s (.int .i64 (Sort.scanDown (fun x => !ltI x e[a]!) e i j:Nat)),uu,uu,uu,uu,uu,uu,uu,uu,uu,uu,uu,uu,uu,uu,uu,uu,uu,uu,uu,uu,uu,uu,uu,uu,uu,uu,uu,uu,uu,uu,uu,uu,uu,uu,x46,x47,x48,x49,x50,x51,x52,x53,x54,x55,x56,x57,x58,x59,x60,uu,uu,uu,uu,uu,uu,uu,uu,uu,uu,uu,uu,uu,uu,uu,uu,uu,uu,uu,uu,uu,uu,uu,uu,uu,uu,uu,uu,uu,uu,uu,uu,uu,uu,uu,uu,uu,uu,uu,uu,uu,uu,uu,uu,uu,uu,uu,uu,uu,uu,uu,uu,uu,uu,uu,uu,uu,uu,uu,uu,uu,uu,uu,uu,uu,uu,uu,uu,uu,uu,uu,uu,uu,uu,uu,uu,uu,uu,uu,uu,uu,uu,uu,uu,uu,uu,uu,uu,uu,uu,uu,uu,uu,uu,uu,uu,uu,uu,uu,uu,uu,uu,uu,uu,uu,uu,uu] ⟨S,H⟩ K)→runLp C P false (zm false [0,2,8,2,156]) (y9r4 c) n0 (.blk 2 :: is) fr ⟨S,H⟩ K:=by
  intro j fr hj hk hX
  generalize hR:Sort.scanDown (fun x => !ltI x e[a]!) e i j=R at hX
  subst hn0
  have hn:=slt hS
  refine loop_rule hC (α:=Nat) (fun x=>x) (fun x=>[.row (.stk n) 0 N N,.s (.int .i64 a),uu,uu,uu,uu,uu,uu,uu,uu,.s (.int .i64 (i:Nat)),.s (.int .i64 (x:Nat)),uu,uu,uu,uu,uu,uu,uu,uu,uu,uu,uu,uu,uu,uu,uu,uu,uu,uu,uu,uu,uu,uu,uu,uu,uu,uu,uu,uu,uu,uu,uu,uu,uu,uu,uu,uu,uu,uu,uu,uu,uu,uu,uu,uu,uu,uu,uu,uu,uu,uu,uu,uu,uu,uu,uu,uu,uu,uu,uu,uu,uu,uu,uu,uu,uu,uu,uu,uu,uu,uu,uu,uu,uu,uu,uu,uu,uu,uu,uu,uu,uu,uu,uu,uu,uu,uu,uu,uu,uu,uu,uu,uu,uu,uu,uu,uu,uu,uu,uu,uu,uu,uu,uu,uu,uu,uu,uu,uu,uu,uu,uu,uu,uu,uu,uu,uu,uu,uu,uu,uu,uu,uu,uu,uu,uu,uu,uu,uu,uu,uu,uu,uu,uu,uu,uu,uu,uu,uu,uu,uu,uu,uu,uu,uu,uu,uu,uu,uu,uu,uu,uu,uu,uu,uu,uu,uu]) (fun _=>S) (fun _=>H) (fun x=>x < N∧R=Sort.scanDown (fun x => !ltI x e[a]!) e i x) j ⟨hj,hR.symm⟩ hk (by rw [List.take_of_length_le (Nat.le_refl _)]) rfl (fun x _=>by simp [AV.under,AV.under.go,hn]) ?_
  rintro x ⟨hx,hinv⟩ ih
  by_cases hxj:i≤x
  case neg =>
    have hlt:¬((i:Int)≤(x:Int)):=by omega
    have hq:Sort.scanDown (fun x => !ltI x e[a]!) e i x=x:=by
      cases x with
      | zero=>rfl
      | succ x=>rw [Sort.scanDown,if_neg (by rw [Bool.and_eq_true,decide_eq_true_eq]; exact fun h=>hxj h.1)]
    rw [hinv,hq] at hX
    simp only [C_slices_partitionOrdered_int64,A_,simprocAttr,ne_eq,(U_slices_partitionOrdered_int64 _).1,hlt]
    exact hX _ _ _ _ _ _ _ _ _ _ _ _ _ _ _
  obtain ⟨y,rfl⟩:∃y,x=y + 1:=⟨x - 1,by omega⟩
  have hlt:((i:Int)≤((y + 1:Nat):Int)):=by omega
  have hw1:IntKind.i64.wrap (((y + 1:Nat):Int) - 1)=((y:Nat):Int):=by rw [wrap_i64 (by omega) (by omega)]; omega
  have x1:∀kk:IntKind,indexAddrL (.sl 1) (.row (.stk n) 0 N N) (.s (.int kk ((y + 1:Nat):Int)))=some (.ptr (.stk n) (y + 1)):=fun kk=>ixi (by omega)
  have x2:∀kk:IntKind,indexAddrL (.sl 1) (.row (.stk n) 0 N N) (.s (.int kk (a:Int)))=some (.ptr (.stk n) a):=fun kk=>ixi (by omega)
  have r1:=ird (H:=H) hS (i:=y + 1) (by omega)
  have r2:=ird (H:=H) hS (i:=a) (by omega)
  simp only [C_slices_partitionOrdered_int64,A_,simprocAttr,ne_eq,(U_slices_partitionOrdered_int64 _).1,hlt,x1,x2,r1,r2]
  refine h0 _ _ _ _ _ ?_
  cases hlk:ltI e[y + 1]! e[a]! with
  | true =>
    rw [Sort.scanDown,if_neg (by rw [Bool.and_eq_true,hlk]; simp)] at hinv
    rw [hinv] at hX
    simp only [C_slices_partitionOrdered_int64,A_,simprocAttr,ne_eq,(U_slices_partitionOrdered_int64 _).1]
    exact hX _ _ _ _ _ _ _ _ _ _ _ _ _ _ _
  | false =>
    rw [Sort.scanDown,if_pos (by rw [Bool.and_eq_true,hlk]; exact ⟨decide_eq_true hxj,rfl⟩)] at hinv
    simp only [C_slices_partitionOrdered_int64,A_,simprocAttr,ne_eq,(U_slices_partitionOrdered_int64 _).1,hw1]
    exact ih y _ _ _ (by omega) ⟨by omega,hinv⟩ (by simp [keep,zm]) (by rw [List.take_of_length_le (Nat.le_refl _)]) rfl
set_option maxHeartbeats 16000000 in
theorem y9r8_loop {C:CallW} (hC:LeC C C) (P:Program) {c:Nat→FuncId} (h0:LessS C (c 0)) {n a j N n0:Nat} {e:Array Int} {S:List (List AV)} {H:List HObj} {is:List Item} {K:KC} (hS:S[n]? = some (flat iA e)) (hn0:n0=S.length) (hN:e.size=N) (ha:a < N) (hj:j < N) (hl:N≤2305843009213693952):∀(i:Nat) (fr:Fr),i≤j + 2→keep (zm false [0,2,8,2,156]) fr=[.row (.stk n) 0 N N,.s (.int .i64 a),uu,uu,uu,uu,uu,uu,uu,uu,.s (.int .i64 (i:Nat)),.s (.int .i64 (j:Nat)),uu,uu,uu,uu,uu,uu,uu,uu,uu,uu,uu,uu,uu,uu,uu,uu,uu,uu,uu,uu,uu,uu,uu,uu,uu,uu,uu,uu,uu,uu,uu,uu,uu,uu,uu,uu,uu,uu,uu,uu,uu,uu,uu,uu,uu,uu,uu,uu,uu,uu,uu,uu,uu,uu,uu,uu,uu,uu,uu,uu,uu,uu,uu,uu,uu,uu,uu,uu,uu,uu,uu,uu,uu,uu,uu,uu,uu,uu,uu,uu,uu,uu,uu,uu,uu,uu,uu,uu,uu,uu,uu,uu,uu,uu,uu,uu,uu,uu,uu,uu,uu,uu,uu,uu,uu,uu,uu,uu,uu,uu,uu,uu,uu,uu,uu,uu,uu,uu,uu,uu,uu,uu,uu,uu,uu,uu,uu,uu,uu,uu,uu,uu,uu,uu,uu,uu,uu,uu,uu,uu,uu,uu,uu,uu,uu,uu,uu,uu,uu,uu,uu,uu,uu,uu,uu,uu]→(∀fr',keep (zm false [0,2,8,2,156]) fr'=[.row (.stk n) 0 N N,.s (.int .i64 a),uu,uu,uu,uu,uu,uu,uu,uu,.s (.int .i64 (Sort.scanUp (fun x=>ltI x e[a]!) e j i:Nat)),.s (.int .i64 (j:Nat)),uu,uu,uu,uu,uu,uu,uu,uu,uu,uu,uu,uu,uu,uu,uu,uu,uu,uu,uu,uu,uu,uu,uu,uu,uu,uu,uu,uu,uu,uu,uu,uu,uu,uu,uu,uu,uu,uu,uu,uu,uu,uu,uu,uu,uu,uu,uu,uu,uu,uu,uu,uu,uu,uu,uu,uu,uu,uu,uu,uu,uu,uu,uu,uu,uu,uu,uu,uu,uu,uu,uu,uu,uu,uu,uu,uu,uu,uu,uu,uu,uu,uu,uu,uu,uu,uu,uu,uu,uu,uu,uu,uu,uu,uu,uu,uu,uu,uu,uu,uu,uu,uu,uu,uu,uu,uu,uu,uu,uu,uu,uu,uu,uu,uu,uu,uu,uu,uu,uu,uu,uu,uu,uu,uu,uu,uu,uu,uu,uu,uu,uu,uu,uu,uu,uu,uu,uu,uu,uu,uu,uu,uu,uu,uu,uu,uu,uu,uu,uu,uu,uu,uu,uu,uu,uu,uu]→nxt C P false is fr' ⟨S,H⟩ K)→runLp C P false (zm false [0,2,8,2,156]) (y9r8 c) n0 (.blk 6 :: is) fr ⟨S,H⟩ K:=by
  intro i fr hi hk hX
  generalize hR:Sort.scanUp (fun x=>ltI x e[a]!) e j i=R at hX
  subst hn0
  have hn:=slt hS
  refine loop_rule hC (α:=Nat) (fun x=>j + 2 - x) (fun x=>[.row (.stk n) 0 N N,.s (.int .i64 a),uu,uu,uu,uu,uu,uu,uu,uu,.s (.int .i64 (x:Nat)),.s (.int .i64 (j:Nat)),uu,uu,uu,uu,uu,uu,uu,uu,uu,uu,uu,uu,uu,uu,uu,uu,uu,uu,uu,uu,uu,uu,uu,uu,uu,uu,uu,uu,uu,uu,uu,uu,uu,uu,uu,uu,uu,uu,uu,uu,uu,uu,uu,uu,uu,uu,uu,uu,uu,uu,uu,uu,uu,uu,uu,uu,uu,uu,uu,uu,uu,uu,uu,uu,uu,uu,uu,uu,uu,uu,uu,uu,uu,uu,uu,uu,uu,uu,uu,uu,uu,uu,uu,uu,uu,uu,uu,uu,uu,uu,uu,uu,uu,uu,uu,uu,uu,uu,uu,uu,uu,uu,uu,uu,uu,uu,uu,uu,uu,uu,uu,uu,uu,uu,uu,uu,uu,uu,uu,uu,uu,uu,uu,uu,uu,uu,uu,uu,uu,uu,uu,uu,uu,uu,uu,uu,uu,uu,uu,uu,uu,uu,uu,uu,uu,uu,uu,uu,uu,uu,uu,uu,uu,uu,uu,uu]) (fun _=>S) (fun _=>H) (fun x=>x≤j + 2∧R=Sort.scanUp (fun x=>ltI x e[a]!) e j x) i ⟨hi,hR.symm⟩ hk (by rw [List.take_of_length_le (Nat.le_refl _)]) rfl (fun x _=>by simp [AV.under,AV.under.go,hn]) ?_
  rintro x ⟨hx,hinv⟩ ih
  by_cases hxj:x≤j
  case neg =>
    have hlt:¬((x:Int)≤(j:Int)):=by omega
    rw [Sort.scanUp,if_neg (by rw [Bool.and_eq_true,decide_eq_true_eq]; exact fun h=>hxj h.1)] at hinv
    rw [hinv] at hX
    simp only [C_slices_partitionOrdered_int64,A_,simprocAttr,ne_eq,(U_slices_partitionOrdered_int64 _).1,hlt]
    exact hX _ (by simp [keep,zm])
  have hlt:((x:Int)≤(j:Int)):=by omega
  have hw1:IntKind.i64.wrap ((x:Int) + 1)=((x + 1:Nat):Int):=by rw [wrap_i64 (by omega) (by omega)]; omega
  have x1:∀kk:IntKind,indexAddrL (.sl 1) (.row (.stk n) 0 N N) (.s (.int kk (x:Int)))=some (.ptr (.stk n) x):=fun kk=>ixi (by omega)
  have x2:∀kk:IntKind,indexAddrL (.sl 1) (.row (.stk n) 0 N N) (.s (.int kk (a:Int)))=some (.ptr (.stk n) a):=fun kk=>ixi (by omega)
  have r1:=ird (H:=H) hS (i:=x) (by omega)
  have r2:=ird (H:=H) hS (i:=a) (by omega)
  simp only [C_slices_partitionOrdered_int64,A_,simprocAttr,ne_eq,(U_slices_partitionOrdered_int64 _).1,hlt,x1,x2,r1,r2]
  refine h0 _ _ _ _ _ ?_
  cases hlk:ltI e[x]! e[a]! with
  | false =>
    rw [Sort.scanUp,if_neg (by rw [Bool.and_eq_true,hlk]; simp)] at hinv
    rw [hinv] at hX
    simp only [C_slices_partitionOrdered_int64,A_,simprocAttr,ne_eq,(U_slices_partitionOrdered_int64 _).1]
    exact hX _ (by simp [keep,zm])
  | true =>
    rw [Sort.scanUp,if_pos (by rw [Bool.and_eq_true,hlk]; exact ⟨decide_eq_true hxj,rfl⟩)] at hinv
    simp only [C_slices_partitionOrdered_int64,A_,simprocAttr,ne_eq,(U_slices_partitionOrdered_int64 _).1,hw1]
    exact ih (x + 1) _ _ _ (by omega) ⟨by omega,hinv⟩ (by simp [keep,zm]) (by rw [List.take_of_length_le (Nat.le_refl _)]) rfl
set_option maxHeartbeats 16000000 in
theorem y9r10_loop {C:CallW} (hC:LeC C C) (P:Program) {c:Nat→FuncId} (h0:LessS C (c 0)) {n a i N n0:Nat} {e:Array Int} {S:List (List AV)} {H:List HObj} {is:List Item} {K:KC} (hS:S[n]? = some (flat iA e)) (hn0:n0=S.length) (hN:e.size=N) (ha:a < N) (hi:1≤i) (hl:N≤2305843009213693952):∀(j:Nat) (fr:Fr),j < N→keep (zm false [0,2,8,2,156]) fr=[.row (.stk n) 0 N N,.s (.int .i64 a),uu,uu,uu,uu,uu,uu,uu,uu,.s (.int .i64 (i:Nat)),.s (.int .i64 (j:Nat)),uu,uu,uu,uu,uu,uu,uu,uu,uu,uu,uu,uu,uu,uu,uu,uu,uu,uu,uu,uu,uu,uu,uu,uu,uu,uu,uu,uu,uu,uu,uu,uu,uu,uu,uu,uu,uu,uu,uu,uu,uu,uu,uu,uu,uu,uu,uu,uu,uu,uu,uu,uu,uu,uu,uu,uu,uu,uu,uu,uu,uu,uu,uu,uu,uu,uu,uu,uu,uu,uu,uu,uu,uu,uu,uu,uu,uu,uu,uu,uu,uu,uu,uu,uu,uu,uu,uu,uu,uu,uu,uu,uu,uu,uu,uu,uu,uu,uu,uu,uu,uu,uu,uu,uu,uu,uu,uu,uu,uu,uu,uu,uu,uu,uu,uu,uu,uu,uu,uu,uu,uu,uu,uu,uu,uu,uu,uu,uu,uu,uu,uu,uu,uu,uu,uu,uu,uu,uu,uu,uu,uu,uu,uu,uu,uu,uu,uu,uu,uu,uu,uu,uu,uu,uu,uu,uu]→(∀x115 x116 x117 x118 x119 x120 x121 x122 x123 x124 x125 x126 x127 x128 x129:AV,nxt C P false is [.row (.stk n) 0 N N,.s (.int .i64 a),uu,uu,uu,uu,uu,uu,uu,uu,.s (.int .i64 (i:Nat)),.s (.int .i64 (Sort.scanDown (fun x => !ltI x e[a]!) e i j:Nat)),uu,uu,uu,uu,uu,uu,uu,uu,uu,uu,uu,uu,uu,uu,uu,uu,uu,uu,uu,uu,uu,uu,uu,uu,uu,uu,uu,uu,uu,uu,uu,uu,uu,uu,uu,uu,uu,uu,uu,uu,uu,uu,uu,uu,uu,uu,uu,uu,uu,uu,uu,uu,uu,uu,uu,uu,uu,uu,uu,uu,uu,uu,uu,uu,uu,uu,uu,uu,uu,uu,uu,uu,uu,uu,uu,uu,uu,uu,uu,uu,uu,uu,uu,uu,uu,uu,uu,uu,uu,uu,uu,uu,uu,uu,uu,uu,uu,uu,uu,uu,uu,uu,uu,x115,x116,x117,x118,x119,x120,x121,x122,x123,x124,x125,x126,x127,x128,x129,uu,uu,uu,uu,uu,uu,uu,uu,uu,uu,uu,uu,uu,uu,uu,uu,uu,uu,uu,uu,uu,uu,uu,uu,uu,uu,uu,uu,uu,uu,uu,uu,uu,uu,uu,uu,uu,uu] ⟨S,H⟩ K)→runLp C P false (zm false [0,2,8,2,156]) (y9r10 c) n0 (.blk 8 :: is) fr ⟨S,H⟩ K:=by
  intro j fr hj hk hX
  generalize hR:Sort.scanDown (fun x => !ltI x e[a]!) e i j=R at hX
  subst hn0
  have hn:=slt hS
  refine loop_rule hC (α:=Nat) (fun x=>x) (fun x=>[.row (.stk n) 0 N N,.s (.int .i64 a),uu,uu,uu,uu,uu,uu,uu,uu,.s (.int .i64 (i:Nat)),.s (.int .i64 (x:Nat)),uu,uu,uu,uu,uu,uu,uu,uu,uu,uu,uu,uu,uu,uu,uu,uu,uu,uu,uu,uu,uu,uu,uu,uu,uu,uu,uu,uu,uu,uu,uu,uu,uu,uu,uu,uu,uu,uu,uu,uu,uu,uu,uu,uu,uu,uu,uu,uu,uu,uu,uu,uu,uu,uu,uu,uu,uu,uu,uu,uu,uu,uu,uu,uu,uu,uu,uu,uu,uu,uu,uu,uu,uu,uu,uu,uu,uu,uu,uu,uu,uu,uu,uu,uu,uu,uu,uu,uu,uu,uu,uu,uu,uu,uu,uu,uu,uu,uu,uu,uu,uu,uu,uu,uu,uu,uu,uu,uu,uu,uu,uu,uu,uu,uu,uu,uu,uu,uu,uu,uu,uu,uu,uu,uu,uu,uu,uu,uu,uu,uu,uu,uu,uu,uu,uu,uu,uu,uu,uu,uu,uu,uu,uu,uu,uu,uu,uu,uu,uu,uu,uu,uu,uu,uu,uu,uu]) (fun _=>S) (fun _=>H) (fun x=>x < N∧R=Sort.scanDown (fun x => !ltI x e[a]!) e i x) j ⟨hj,hR.symm⟩ hk (by rw [List.take_of_length_le (Nat.le_refl _)]) rfl (fun x _=>by simp [AV.under,AV.under.go,hn]) ?_
  rintro x ⟨hx,hinv⟩ ih
  by_cases hxj:i≤x
  case neg =>
    have hlt:¬((i:Int)≤(x:Int)):=by omega
    have hq:Sort.scanDown (fun x => !ltI x e[a]!) e i x=x:=by
      cases x with
      | zero=>rfl
      | succ x=>rw [Sort.scanDown,if_neg (by rw [Bool.and_eq_true,decide_eq_true_eq]; exact fun h=>hxj h.1)]
    rw [hinv,hq] at hX
    simp only [C_slices_partitionOrdered_int64,A_,simprocAttr,ne_eq,(U_slices_partitionOrdered_int64 _).1,hlt]
    exact hX _ _ _ _ _ _ _ _ _ _ _ _ _ _ _
  obtain ⟨y,rfl⟩:∃y,x=y + 1:=⟨x - 1,by omega⟩
  have hlt:((i:Int)≤((y + 1:Nat):Int)):=by omega
  have hw1:IntKind.i64.wrap (((y + 1:Nat):Int) - 1)=((y:Nat):Int):=by rw [wrap_i64 (by omega) (by omega)]; omega
  have x1:∀kk:IntKind,indexAddrL (.sl 1) (.row (.stk n) 0 N N) (.s (.int kk ((y + 1:Nat):Int)))=some (.ptr (.stk n) (y + 1)):=fun kk=>ixi (by omega)
  have x2:∀kk:IntKind,indexAddrL (.sl 1) (.row (.stk n) 0 N N) (.s (.int kk (a:Int)))=some (.ptr (.stk n) a):=fun kk=>ixi (by omega)
  have r1:=ird (H:=H) hS (i:=y + 1) (by omega)
  have r2:=ird (H:=H) hS (i:=a) (by omega)
  simp only [C_slices_partitionOrdered_int64,A_,simprocAttr,ne_eq,(U_slices_partitionOrdered_int64 _).1,hlt,x1,x2,r1,r2]
  refine h0 _ _ _ _ _ ?_
  cases hlk:ltI e[y + 1]! e[a]! with
  | true =>
    rw [Sort.scanDown,if_neg (by rw [Bool.and_eq_true,hlk]; simp)] at hinv
    rw [hinv] at hX
    simp only [C_slices_partitionOrdered_int64,A_,simprocAttr,ne_eq,(U_slices_partitionOrdered_int64 _).1]
    exact hX _ _ _ _ _ _ _ _ _ _ _ _ _ _ _
  | false =>
    rw [Sort.scanDown,if_pos (by rw [Bool.and_eq_true,hlk]; exact ⟨decide_eq_true hxj,rfl⟩)] at hinv
    simp only [C_slices_partitionOrdered_int64,A_,simprocAttr,ne_eq,(U_slices_partitionOrdered_int64 _).1,hw1]
    exact ih y _ _ _ (by omega) ⟨by omega,hinv⟩ (by simp [keep,zm]) (by rw [List.take_of_length_le (Nat.le_refl _)]) rfl
def PartS (C:CallW) (f:FuncId):Prop:=∀(n:Nat) (d:Array Int) (a b p:Nat) S H (K:AV→St→Prop),S[n]? = some (flat iA d)→a≤p→p < b→b≤d.size→d.size≤2305843009213693952→K (.tup [.s (.int .i64 (Sort.partition ltI d a b p).1),.s (.bool (Sort.partition ltI d a b p).2.1)]) ⟨S.set n (flat iA (Sort.partition ltI d a b p).2.2),H⟩→C (.fn f) [.row (.stk n) 0 d.size d.size,.s (.int .i64 a),.s (.int .i64 b),.s (.int .i64 p)] ⟨S,H⟩ K
set_option maxHeartbeats 16000000 in
theorem partition_spec {C:CallW} (hC:LeC C C) (P:Program) {c:Nat→FuncId} (h0:LessS C (c 0)):∀(n:Nat) (d:Array Int) (a b p:Nat) S H (K:AV→St→Prop),S[n]? = some (flat iA d)→a≤p→p < b→b≤d.size→d.size≤2305843009213693952→K (.tup [.s (.int .i64 (Sort.partition ltI d a b p).1),.s (.bool (Sort.partition ltI d a b p).2.1)]) ⟨S.set n (flat iA (Sort.partition ltI d a b p).2.2),H⟩→runL C P (C_slices_partitionOrdered_int64 c) [.row (.stk n) 0 d.size d.size,.s (.int .i64 a),.s (.int .i64 b),.s (.int .i64 p)] ⟨S,H⟩ K:=by
  intro n d a b p S H K hS hap hpb hbd hdl hK
  have hn:=slt hS
  unfold Sort.partition at hK
  dsimp only at hK
  have hw0:IntKind.i64.wrap ((a:Int) + 1)=((a + 1:Nat):Int):=by rw [wrap_i64 (by omega) (by omega)]; omega
  have hw1:IntKind.i64.wrap ((b:Int) - 1)=((b - 1:Nat):Int):=by rw [wrap_i64 (by omega) (by omega)]; omega
  have xa:∀kk:IntKind,indexAddrL (.sl 1) (.row (.stk n) 0 d.size d.size) (.s (.int kk (a:Int)))=some (.ptr (.stk n) a):=fun kk=>ixi (by omega)
  have xb:∀kk:IntKind,indexAddrL (.sl 1) (.row (.stk n) 0 d.size d.size) (.s (.int kk (p:Int)))=some (.ptr (.stk n) p):=fun kk=>ixi (by omega)
  have ra:=ird (H:=H) hS (i:=a) (by omega)
  have rb:=ird (H:=H) hS (i:=p) (by omega)
  obtain ⟨wa,wb⟩:=sw2 (H:=H) hS (i:=a) (j:=p) (by omega) (by omega)
  simp only [C_slices_partitionOrdered_int64,A_,simprocAttr,ne_eq,(U_slices_partitionOrdered_int64 _).1,hw0,hw1,xa,xb,ra,rb,wa,wb]
  have hds:(Sort.swp d a p).size=d.size:=swp_size
  generalize Sort.swp d a p=d1 at hK hds ⊢
  clear xa xb ra rb wa wb
  refine y9r2_loop (a:=a) hC P h0 (sset hS) (by simp) hds (by omega) (j:=b - 1) (by omega) hdl (a + 1) _ (by omega) (by simp [keep,zm]) fun fr' hk' => ?_
  simp only [C_slices_partitionOrdered_int64,A_,simprocAttr,ne_eq,(U_slices_partitionOrdered_int64 _).1]
  obtain ⟨u1,u2⟩:=scanUp_bd (fun x=>ltI x d1[a]!) d1 (b - 1) _ (a + 1) (Nat.le_refl _)
  obtain ⟨i1,hi1⟩:∃i2,Sort.scanUp (fun x=>ltI x d1[a]!) d1 (b - 1) (a + 1)=i2:=⟨_,rfl⟩
  rw [hi1] at hk' u1 u2
  simp only [hi1] at hK
  refine y9r4_loop (a:=a) hC P h0 (sset hS) (by simp) hds (by omega) (by omega) hdl (b - 1) _ (by omega) hk' ?_
  have v1:=scanDown_le (fun x => !ltI x d1[a]!) d1 i1 (b - 1)
  obtain ⟨j1,hj1⟩:∃j2,Sort.scanDown (fun x => !ltI x d1[a]!) d1 i1 (b - 1)=j2:=⟨_,rfl⟩
  rw [hj1] at v1 ⊢
  simp only [hj1] at hK
  intro x46 x47 x48 x49 x50 x51 x52 x53 x54 x55 x56 x57 x58 x59 x60
  have hSd:(S.set n (flat iA d1))[n]? = some (flat iA d1):=sset hS
  by_cases hij:j1 < i1
  · have hlt:((j1:Int) < (i1:Int)):=by omega
    rw [if_pos hij] at hK
    have xa:∀kk:IntKind,indexAddrL (.sl 1) (.row (.stk n) 0 d.size d.size) (.s (.int kk (j1:Int)))=some (.ptr (.stk n) j1):=fun kk=>ixi (by omega)
    have xb:∀kk:IntKind,indexAddrL (.sl 1) (.row (.stk n) 0 d.size d.size) (.s (.int kk (a:Int)))=some (.ptr (.stk n) a):=fun kk=>ixi (by omega)
    have ra:=ird (H:=H) hSd (i:=j1) (by omega)
    have rb:=ird (H:=H) hSd (i:=a) (by omega)
    obtain ⟨wa,wb⟩:=sw2 (H:=H) hSd (i:=j1) (j:=a) (by omega) (by omega)
    rw [List.set_set] at wa wb
    rw [List.set_set] at wb
    simp only [C_slices_partitionOrdered_int64,A_,simprocAttr,ne_eq,(U_slices_partitionOrdered_int64 _).1,hlt,xa,xb,ra,rb,wa,wb]
    exact hK
  have hlt:¬((j1:Int) < (i1:Int)):=by omega
  rw [if_neg hij] at hK
  have hwi:IntKind.i64.wrap ((i1:Int) + 1)=((i1 + 1:Nat):Int):=by rw [wrap_i64 (by omega) (by omega)]; omega
  have hwj:IntKind.i64.wrap ((j1:Int) - 1)=((j1 - 1:Nat):Int):=by rw [wrap_i64 (by omega) (by omega)]; omega
  have xa:∀kk:IntKind,indexAddrL (.sl 1) (.row (.stk n) 0 d.size d.size) (.s (.int kk (i1:Int)))=some (.ptr (.stk n) i1):=fun kk=>ixi (by omega)
  have xb:∀kk:IntKind,indexAddrL (.sl 1) (.row (.stk n) 0 d.size d.size) (.s (.int kk (j1:Int)))=some (.ptr (.stk n) j1):=fun kk=>ixi (by omega)
  have ra:=ird (H:=H) hSd (i:=i1) (by omega)
  have rb:=ird (H:=H) hSd (i:=j1) (by omega)
  obtain ⟨wa,wb⟩:=sw2 (H:=H) hSd (i:=i1) (j:=j1) (by omega) (by omega)
  rw [List.set_set] at wa wb
  rw [List.set_set] at wb
  simp only [C_slices_partitionOrdered_int64,A_,simprocAttr,ne_eq,(U_slices_partitionOrdered_int64 _).1,hlt,xa,xb,ra,rb,wa,wb,hwi,hwj]
  have hgs:(Sort.swp d1 i1 j1).size=d.size:=by rw [swp_size]; exact hds
  generalize Sort.swp d1 i1 j1=g0 at hK hgs ⊢
  clear xa xb ra rb wa wb
  generalize hX:Sort.partLoop ltI a (i1 + 1) (j1 - 1) g0=X at hK
  refine loop_rule hC (α:=Nat×Nat×Array Int) (fun x=>x.2.1 + 1 - x.1) (fun x=>[.row (.stk n) 0 d.size d.size,.s (.int .i64 a),uu,uu,uu,uu,uu,uu,uu,uu,.s (.int .i64 (x.1:Nat)),.s (.int .i64 (x.2.1:Nat)),uu,uu,uu,uu,uu,uu,uu,uu,uu,uu,uu,uu,uu,uu,uu,uu,uu,uu,uu,uu,uu,uu,uu,uu,uu,uu,uu,uu,uu,uu,uu,uu,uu,uu,uu,uu,uu,uu,uu,uu,uu,uu,uu,uu,uu,uu,uu,uu,uu,uu,uu,uu,uu,uu,uu,uu,uu,uu,uu,uu,uu,uu,uu,uu,uu,uu,uu,uu,uu,uu,uu,uu,uu,uu,uu,uu,uu,uu,uu,uu,uu,uu,uu,uu,uu,uu,uu,uu,uu,uu,uu,uu,uu,uu,uu,uu,uu,uu,uu,uu,uu,uu,uu,uu,uu,uu,uu,uu,uu,uu,uu,uu,uu,uu,uu,uu,uu,uu,uu,uu,uu,uu,uu,uu,uu,uu,uu,uu,uu,uu,uu,uu,uu,uu,uu,uu,uu,uu,uu,uu,uu,uu,uu,uu,uu,uu,uu,uu,uu,uu,uu,uu,uu,uu,uu,uu]) (fun x=>S.set n (flat iA x.2.2)) (fun _=>H) (fun x=>1≤x.1∧x.1≤x.2.1 + 2∧x.2.1 < d.size∧x.2.2.size=d.size∧X=Sort.partLoop ltI a x.1 x.2.1 x.2.2) (i1 + 1,j1 - 1,g0) ⟨by dsimp only; omega,by dsimp only; omega,by dsimp only; omega,hgs,hX.symm⟩ (by simp [keep,zm]) (by rw [List.take_of_length_le]; simp) rfl (fun x _=>by simp [AV.under,AV.under.go,hn]) ?_
  rintro ⟨i,j,e⟩ ⟨h1,h2,hj,hes,hinv⟩ ih
  dsimp only at h1 h2 hj hes hinv ih ⊢
  simp only [C_slices_partitionOrdered_int64,A_,simprocAttr,ne_eq,(U_slices_partitionOrdered_int64 _).1]
  refine y9r8_loop (a:=a) hC P h0 (sset hS) (by simp) hes (by omega) hj hdl i _ h2 (by simp [keep,zm]) fun fr' hk' => ?_
  simp only [C_slices_partitionOrdered_int64,A_,simprocAttr,ne_eq,(U_slices_partitionOrdered_int64 _).1]
  obtain ⟨u1,u2⟩:=scanUp_bd (fun x=>ltI x e[a]!) e j _ i (Nat.le_refl _)
  obtain ⟨i2,hi2⟩:∃i2,Sort.scanUp (fun x=>ltI x e[a]!) e j i=i2:=⟨_,rfl⟩
  rw [hi2] at hk' u1 u2
  refine y9r10_loop (a:=a) hC P h0 (sset hS) (by simp) hes (by omega) (by omega) hdl j _ hj hk' ?_
  have v1:=scanDown_le (fun x => !ltI x e[a]!) e i2 j
  obtain ⟨j2,hj2⟩:∃j2,Sort.scanDown (fun x => !ltI x e[a]!) e i2 j=j2:=⟨_,rfl⟩
  rw [hj2] at v1 ⊢
  intro x115 x116 x117 x118 x119 x120 x121 x122 x123 x124 x125 x126 x127 x128 x129
  rw [Sort.partLoop] at hinv
  simp only [hi2,hj2] at hinv
  have hSe:(S.set n (flat iA e))[n]? = some (flat iA e):=sset hS
  by_cases hij:j2 < i2
  · have hlt:((j2:Int) < (i2:Int)):=by omega
    rw [if_pos hij] at hinv
    rw [hinv] at hK
    have xa:∀kk:IntKind,indexAddrL (.sl 1) (.row (.stk n) 0 d.size d.size) (.s (.int kk (j2:Int)))=some (.ptr (.stk n) j2):=fun kk=>ixi (by omega)
    have xb:∀kk:IntKind,indexAddrL (.sl 1) (.row (.stk n) 0 d.size d.size) (.s (.int kk (a:Int)))=some (.ptr (.stk n) a):=fun kk=>ixi (by omega)
    have ra:=ird (H:=H) hSe (i:=j2) (by omega)
    have rb:=ird (H:=H) hSe (i:=a) (by omega)
    obtain ⟨wa,wb⟩:=sw2 (H:=H) hSe (i:=j2) (j:=a) (by omega) (by omega)
    rw [List.set_set] at wa wb
    rw [List.set_set] at wb
    simp only [C_slices_partitionOrdered_int64,A_,simprocAttr,ne_eq,(U_slices_partitionOrdered_int64 _).1,hlt,xa,xb,ra,rb,wa,wb]
    exact hK
  have hlt:¬((j2:Int) < (i2:Int)):=by omega
  rw [if_neg hij,dif_pos (by omega)] at hinv
  have hwi:IntKind.i64.wrap ((i2:Int) + 1)=((i2 + 1:Nat):Int):=by rw [wrap_i64 (by omega) (by omega)]; omega
  have hwj:IntKind.i64.wrap ((j2:Int) - 1)=((j2 - 1:Nat):Int):=by rw [wrap_i64 (by omega) (by omega)]; omega
  have xa:∀kk:IntKind,indexAddrL (.sl 1) (.row (.stk n) 0 d.size d.size) (.s (.int kk (i2:Int)))=some (.ptr (.stk n) i2):=fun kk=>ixi (by omega)
  have xb:∀kk:IntKind,indexAddrL (.sl 1) (.row (.stk n) 0 d.size d.size) (.s (.int kk (j2:Int)))=some (.ptr (.stk n) j2):=fun kk=>ixi (by omega)
  have ra:=ird (H:=H) hSe (i:=i2) (by omega)
  have rb:=ird (H:=H) hSe (i:=j2) (by omega)
  obtain ⟨wa,wb⟩:=sw2 (H:=H) hSe (i:=i2) (j:=j2) (by omega) (by omega)
  rw [List.set_set] at wa wb
  rw [List.set_set] at wb
  simp only [C_slices_partitionOrdered_int64,A_,simprocAttr,ne_eq,(U_slices_partitionOrdered_int64 _).1,hlt,xa,xb,ra,rb,wa,wb,hwi,hwj]
  exact ih (i2 + 1,j2 - 1,Sort.swp e i2 j2) _ _ _ (by dsimp only; omega) ⟨by dsimp only; omega,by dsimp only; omega,by dsimp only; omega,by rw [swp_size]; exact hes,hinv⟩ (by simp [keep,zm]) (by rw [List.take_of_length_le]; simp) rfl
end Go.AM
namespace Go.AM
open Go
open AV renaming undef → uu
set_option maxRecDepth 20000
theorem shiftDown_size:∀(j:Nat) (d:Array Int),(Sort.shiftDown ltI j d).size=d.size
  | 0,d=>rfl
  | j + 1,d=>by
    rw [Sort.shiftDown]
    split
    · rfl
    · rw [shiftDown_size j,swp_size]
theorem shiftUp_size (b:Nat):∀(m j:Nat) (d:Array Int),b - j≤m→(Sort.shiftUp ltI b j d).size=d.size:=by
  intro m
  induction m with
  | zero=>intro j d h; rw [Sort.shiftUp,if_neg (by omega)]
  | succ m ih =>
    intro j d h
    rw [Sort.shiftUp]
    split
    · split
      · rfl
      · rw [ih _ _ (by omega),swp_size]
    · rfl
theorem scanSorted_bd (d:Array Int) (b:Nat):∀(m i:Nat),b - i≤m→i≤b→i≤Sort.scanSorted ltI d b i∧Sort.scanSorted ltI d b i≤b:=by
  intro m
  induction m with
  | zero=>intro i h hi; rw [Sort.scanSorted,if_neg (by rw [Bool.and_eq_true,decide_eq_true_eq]; exact fun h=>by omega)]; exact ⟨Nat.le_refl _,hi⟩
  | succ m ih =>
    intro i h hi
    rw [Sort.scanSorted]
    split
    · rename_i h1
      rw [Bool.and_eq_true,decide_eq_true_eq] at h1
      have:=ih (i + 1) (by omega) (by omega)
      omega
    · exact ⟨Nat.le_refl _,hi⟩
set_option maxHeartbeats 16000000 in
theorem y9p2_loop {C:CallW} (hC:LeC C C) (P:Program) {c:Nat→FuncId} (h0:LessS C (c 0)) {n a b N st n0:Nat} {e:Array Int} {S:List (List AV)} {H:List HObj} {is:List Item} {K:KC} (hS:S[n]? = some (flat iA e)) (hn0:n0=S.length) (hN:e.size=N) (hb:b≤N) (hl:N≤2305843009213693952):∀(i:Nat) (fr:Fr),1≤i→i≤b→keep (zm false [0,3,4,2,124]) fr=[.row (.stk n) 0 N N,.s (.int .i64 (a:Nat)),.s (.int .i64 (b:Nat)),uu,uu,uu,uu,.s (.int .i64 (i:Nat)),.s (.int .i64 (st:Nat)),uu,uu,uu,uu,uu,uu,uu,uu,uu,uu,uu,uu,uu,uu,uu,uu,uu,uu,uu,uu,uu,uu,uu,uu,uu,uu,uu,uu,uu,uu,uu,uu,uu,uu,uu,uu,uu,uu,uu,uu,uu,uu,uu,uu,uu,uu,uu,uu,uu,uu,uu,uu,uu,uu,uu,uu,uu,uu,uu,uu,uu,uu,uu,uu,uu,uu,uu,uu,uu,uu,uu,uu,uu,uu,uu,uu,uu,uu,uu,uu,uu,uu,uu,uu,uu,uu,uu,uu,uu,uu,uu,uu,uu,uu,uu,uu,uu,uu,uu,uu,uu,uu,uu,uu,uu,uu,uu,uu,uu,uu,uu,uu,uu,uu,uu,uu,uu,uu,uu,uu,uu,uu,uu,uu]→(∀x17 x18 x19 x20 x21 x22 x23 x24 x25 x26 x27 x28 x29 x30 x31 x32:AV,nxt C P false is [.row (.stk n) 0 N N,.s (.int .i64 (a:Nat)),.s (.int .i64 (b:Nat)),uu,uu,uu,uu,.s (.int .i64 (Sort.scanSorted ltI e b i:Nat)),.s (.int .i64 (st:Nat)),uu,uu,uu,uu,uu,uu,uu,uu,x17,x18,x19,x20,x21,x22,x23,x24,x25,x26,x27,x28,x29,x30,x31,x32,uu,uu,uu,uu,uu,uu,uu,uu,uu,uu,uu,uu,uu,uu,uu,uu,uu,uu,uu,uu,uu,uu,uu,uu,uu,uu,uu,uu,uu,uu,uu,uu,uu,uu,uu,uu,uu,uu,uu,uu,uu,uu,uu,uu,uu,uu,uu,uu,uu,uu,uu,uu,uu,uu,uu,uu,uu,uu,uu,uu,uu,uu,uu,uu,uu,uu,uu,uu,uu,uu,uu,uu,uu,uu,uu,uu,uu,uu,uu,uu,uu,uu,uu,uu,uu,uu,uu,uu,uu,uu,uu,uu,uu,uu,uu,uu,uu,uu,uu,uu] ⟨S,H⟩ K)→runLp C P false (zm false [0,3,4,2,124]) (y9p2 c) n0 (.blk 2 :: is) fr ⟨S,H⟩ K:=by
  intro i fr hi1 hi hk hX
  generalize hR:Sort.scanSorted ltI e b i=R at hX
  subst hn0
  have hn:=slt hS
  refine loop_rule hC (α:=Nat) (fun x=>b - x) (fun x=>[.row (.stk n) 0 N N,.s (.int .i64 (a:Nat)),.s (.int .i64 (b:Nat)),uu,uu,uu,uu,.s (.int .i64 (x:Nat)),.s (.int .i64 (st:Nat)),uu,uu,uu,uu,uu,uu,uu,uu,uu,uu,uu,uu,uu,uu,uu,uu,uu,uu,uu,uu,uu,uu,uu,uu,uu,uu,uu,uu,uu,uu,uu,uu,uu,uu,uu,uu,uu,uu,uu,uu,uu,uu,uu,uu,uu,uu,uu,uu,uu,uu,uu,uu,uu,uu,uu,uu,uu,uu,uu,uu,uu,uu,uu,uu,uu,uu,uu,uu,uu,uu,uu,uu,uu,uu,uu,uu,uu,uu,uu,uu,uu,uu,uu,uu,uu,uu,uu,uu,uu,uu,uu,uu,uu,uu,uu,uu,uu,uu,uu,uu,uu,uu,uu,uu,uu,uu,uu,uu,uu,uu,uu,uu,uu,uu,uu,uu,uu,uu,uu,uu,uu,uu,uu,uu]) (fun _=>S) (fun _=>H) (fun x=>1≤x∧x≤b∧R=Sort.scanSorted ltI e b x) i ⟨hi1,hi,hR.symm⟩ hk (by rw [List.take_of_length_le (Nat.le_refl _)]) rfl (fun x _=>by simp [AV.under,AV.under.go,hn]) ?_
  rintro x ⟨hx1,hx,hinv⟩ ih
  by_cases hxb:x < b
  case neg =>
    have hlt:¬((x:Int) < (b:Int)):=by omega
    rw [Sort.scanSorted,if_neg (by rw [Bool.and_eq_true,decide_eq_true_eq]; exact fun h=>hxb h.1)] at hinv
    rw [hinv] at hX
    simp only [C_slices_partialInsertionSortOrdered_int64,A_,simprocAttr,ne_eq,(U_slices_partialInsertionSortOrdered_int64 _).1,hlt]
    exact hX _ _ _ _ _ _ _ _ _ _ _ _ _ _ _ _
  have hlt:((x:Int) < (b:Int)):=by omega
  obtain ⟨y,rfl⟩:∃y,x=y + 1:=⟨x - 1,by omega⟩
  have hw0:IntKind.i64.wrap (((y + 1:Nat):Int) - 1)=((y:Nat):Int):=by rw [wrap_i64 (by omega) (by omega)]; omega
  have hw1:IntKind.i64.wrap (((y + 1:Nat):Int) + 1)=((y + 1 + 1:Nat):Int):=by rw [wrap_i64 (by omega) (by omega)]; omega
  have x1:∀kk:IntKind,indexAddrL (.sl 1) (.row (.stk n) 0 N N) (.s (.int kk ((y + 1:Nat):Int)))=some (.ptr (.stk n) (y + 1)):=fun kk=>ixi (by omega)
  have x2:∀kk:IntKind,indexAddrL (.sl 1) (.row (.stk n) 0 N N) (.s (.int kk ((y:Nat):Int)))=some (.ptr (.stk n) y):=fun kk=>ixi (by omega)
  have r1:=ird (H:=H) hS (i:=y + 1) (by omega)
  have r2:=ird (H:=H) hS (i:=y) (by omega)
  simp only [C_slices_partialInsertionSortOrdered_int64,A_,simprocAttr,ne_eq,(U_slices_partialInsertionSortOrdered_int64 _).1,hlt,hw0,x1,x2,r1,r2]
  refine h0 _ _ _ _ _ ?_
  cases hlk:ltI e[y + 1]! e[y]! with
  | true =>
    rw [Sort.scanSorted,if_neg (by rw [Nat.add_sub_cancel,Bool.and_eq_true,hlk]; simp)] at hinv
    rw [hinv] at hX
    simp only [C_slices_partialInsertionSortOrdered_int64,A_,simprocAttr,ne_eq,(U_slices_partialInsertionSortOrdered_int64 _).1]
    exact hX _ _ _ _ _ _ _ _ _ _ _ _ _ _ _ _
  | false =>
    rw [Sort.scanSorted,if_pos (by rw [Nat.add_sub_cancel,Bool.and_eq_true,hlk]; exact ⟨decide_eq_true hxb,rfl⟩)] at hinv
    simp only [C_slices_partialInsertionSortOrdered_int64,A_,simprocAttr,ne_eq,(U_slices_partialInsertionSortOrdered_int64 _).1,hw1]
    exact ih (y + 1 + 1) _ _ _ (by omega) ⟨by omega,by omega,hinv⟩ (by simp [keep,zm]; omega) (by rw [List.take_of_length_le (Nat.le_refl _)]) rfl
set_option maxHeartbeats 16000000 in
theorem y9p6_loop {C:CallW} (hC:LeC C C) (P:Program) {c:Nat→FuncId} (h0:LessS C (c 0)) {n a b i N st n0:Nat} {S:List (List AV)} {H:List HObj} {is:List Item} {K:KC} (hn:n < S.length) (hn0:n0=S.length) (hl:N≤2305843009213693952):∀(j:Nat) (d:Array Int) (fr:Fr),j < N→d.size=N→keep (zm false [0,3,4,3,123]) fr=[.row (.stk n) 0 N N,.s (.int .i64 (a:Nat)),.s (.int .i64 (b:Nat)),uu,uu,uu,uu,.s (.int .i64 (i:Nat)),.s (.int .i64 (st:Nat)),.s (.int .i64 (j:Nat)),uu,uu,uu,uu,uu,uu,uu,uu,uu,uu,uu,uu,uu,uu,uu,uu,uu,uu,uu,uu,uu,uu,uu,uu,uu,uu,uu,uu,uu,uu,uu,uu,uu,uu,uu,uu,uu,uu,uu,uu,uu,uu,uu,uu,uu,uu,uu,uu,uu,uu,uu,uu,uu,uu,uu,uu,uu,uu,uu,uu,uu,uu,uu,uu,uu,uu,uu,uu,uu,uu,uu,uu,uu,uu,uu,uu,uu,uu,uu,uu,uu,uu,uu,uu,uu,uu,uu,uu,uu,uu,uu,uu,uu,uu,uu,uu,uu,uu,uu,uu,uu,uu,uu,uu,uu,uu,uu,uu,uu,uu,uu,uu,uu,uu,uu,uu,uu,uu,uu,uu,uu,uu,uu]→(∀x9 x64 x65 x66 x67 x68 x69 x70 x71 x72 x73 x74 x75 x76 x77 x78:AV,nxt C P false is [.row (.stk n) 0 N N,.s (.int .i64 (a:Nat)),.s (.int .i64 (b:Nat)),uu,uu,uu,uu,.s (.int .i64 (i:Nat)),.s (.int .i64 (st:Nat)),x9,uu,uu,uu,uu,uu,uu,uu,uu,uu,uu,uu,uu,uu,uu,uu,uu,uu,uu,uu,uu,uu,uu,uu,uu,uu,uu,uu,uu,uu,uu,uu,uu,uu,uu,uu,uu,uu,uu,uu,uu,uu,uu,uu,uu,uu,uu,uu,uu,uu,uu,uu,uu,uu,uu,x64,x65,x66,x67,x68,x69,x70,x71,x72,x73,x74,x75,x76,x77,x78,uu,uu,uu,uu,uu,uu,uu,uu,uu,uu,uu,uu,uu,uu,uu,uu,uu,uu,uu,uu,uu,uu,uu,uu,uu,uu,uu,uu,uu,uu,uu,uu,uu,uu,uu,uu,uu,uu,uu,uu,uu,uu,uu,uu,uu,uu,uu,uu,uu,uu,uu,uu,uu,uu] ⟨S.set n (flat iA (Sort.shiftDown ltI j d)),H⟩ K)→runLp C P false (zm false [0,3,4,3,123]) (y9p6 c) n0 (.blk 4 :: is) fr ⟨S.set n (flat iA d),H⟩ K:=by
  intro j d fr hj hd hk hX
  generalize hR:Sort.shiftDown ltI j d=R at hX
  subst hn0
  obtain ⟨z,hz⟩:∃z,S[n]? = some z:=⟨_,List.getElem?_eq_getElem hn⟩
  refine loop_rule hC (α:=Nat×Array Int) (fun x=>x.1) (fun x=>[.row (.stk n) 0 N N,.s (.int .i64 (a:Nat)),.s (.int .i64 (b:Nat)),uu,uu,uu,uu,.s (.int .i64 (i:Nat)),.s (.int .i64 (st:Nat)),.s (.int .i64 (x.1:Nat)),uu,uu,uu,uu,uu,uu,uu,uu,uu,uu,uu,uu,uu,uu,uu,uu,uu,uu,uu,uu,uu,uu,uu,uu,uu,uu,uu,uu,uu,uu,uu,uu,uu,uu,uu,uu,uu,uu,uu,uu,uu,uu,uu,uu,uu,uu,uu,uu,uu,uu,uu,uu,uu,uu,uu,uu,uu,uu,uu,uu,uu,uu,uu,uu,uu,uu,uu,uu,uu,uu,uu,uu,uu,uu,uu,uu,uu,uu,uu,uu,uu,uu,uu,uu,uu,uu,uu,uu,uu,uu,uu,uu,uu,uu,uu,uu,uu,uu,uu,uu,uu,uu,uu,uu,uu,uu,uu,uu,uu,uu,uu,uu,uu,uu,uu,uu,uu,uu,uu,uu,uu,uu,uu]) (fun x=>S.set n (flat iA x.2)) (fun _=>H) (fun x=>x.1 < N∧x.2.size=N∧R=Sort.shiftDown ltI x.1 x.2) (j,d) ⟨hj,hd,hR.symm⟩ hk (by rw [List.take_of_length_le]; simp) rfl (fun x _=>by simp [AV.under,AV.under.go,hn]) ?_
  rintro ⟨x,e⟩ ⟨hx,hes,hinv⟩ ih
  dsimp only at hx hes hinv ih ⊢
  have hSe:(S.set n (flat iA e))[n]? = some (flat iA e):=sset hz
  cases x with
  | zero =>
    have hlt:((1:Int)≤((0:Nat):Int))=False:=eq_false (by omega)
    have hlt2:((1:Int)≤0)=False:=eq_false (by omega)
    rw [Sort.shiftDown] at hinv
    rw [hinv] at hX
    simp only [C_slices_partialInsertionSortOrdered_int64,A_,simprocAttr,ne_eq,(U_slices_partialInsertionSortOrdered_int64 _).1,hlt,hlt2]
    exact hX _ _ _ _ _ _ _ _ _ _ _ _ _ _ _ _
  | succ y =>
    have hlt:((1:Int)≤((y + 1:Nat):Int))=True:=eq_true (by omega)
    have hw0:IntKind.i64.wrap (((y + 1:Nat):Int) - 1)=((y:Nat):Int):=by rw [wrap_i64 (by omega) (by omega)]; omega
    have xa:∀kk:IntKind,indexAddrL (.sl 1) (.row (.stk n) 0 N N) (.s (.int kk ((y + 1:Nat):Int)))=some (.ptr (.stk n) (y + 1)):=fun kk=>ixi (by omega)
    have xb:∀kk:IntKind,indexAddrL (.sl 1) (.row (.stk n) 0 N N) (.s (.int kk ((y:Nat):Int)))=some (.ptr (.stk n) (y)):=fun kk=>ixi (by omega)
    have ra:=ird (H:=H) hSe (i:=y + 1) (by omega)
    have rb:=ird (H:=H) hSe (i:=y) (by omega)
    obtain ⟨wa,wb⟩:=sw2 (H:=H) hSe (i:=y + 1) (j:=y) (by omega) (by omega)
    rw [List.set_set] at wa wb
    rw [List.set_set] at wb
    simp only [C_slices_partialInsertionSortOrdered_int64,A_,simprocAttr,ne_eq,(U_slices_partialInsertionSortOrdered_int64 _).1,hlt,hw0,xa,xb,ra,rb]
    refine h0 _ _ _ _ _ ?_
    rw [Sort.shiftDown] at hinv
    cases hlk:ltI e[y + 1]! e[y]! with
    | false =>
      rw [hlk,if_pos (by rfl)] at hinv
      rw [hinv] at hX
      simp only [C_slices_partialInsertionSortOrdered_int64,A_,simprocAttr,ne_eq,(U_slices_partialInsertionSortOrdered_int64 _).1]
      exact hX _ _ _ _ _ _ _ _ _ _ _ _ _ _ _ _
    | true =>
      rw [hlk,if_neg (by simp)] at hinv
      simp only [C_slices_partialInsertionSortOrdered_int64,A_,simprocAttr,ne_eq,(U_slices_partialInsertionSortOrdered_int64 _).1,hw0,xa,xb,ra,rb,wa,wb]
      exact ih (y,Sort.swp e (y + 1) y) _ _ _ (by dsimp only; omega) ⟨by dsimp only; omega,by rw [swp_size]; exact hes,hinv⟩ (by simp [keep,zm]) (by rw [List.take_of_length_le]; simp) rfl
set_option maxHeartbeats 16000000 in
theorem y9p12_loop {C:CallW} (hC:LeC C C) (P:Program) {c:Nat→FuncId} (h0:LessS C (c 0)) {n a b i N st n0:Nat} {S:List (List AV)} {H:List HObj} {is:List Item} {K:KC} (hn:n < S.length) (hn0:n0=S.length) (hb:b≤N) (hl:N≤2305843009213693952):∀(j:Nat) (d:Array Int) (fr:Fr),1≤j→j≤b→d.size=N→keep (zm false [0,3,4,2,1,1,122]) fr=[.row (.stk n) 0 N N,.s (.int .i64 (a:Nat)),.s (.int .i64 (b:Nat)),uu,uu,uu,uu,.s (.int .i64 (i:Nat)),.s (.int .i64 (st:Nat)),.undef,.s (.int .i64 (j:Nat)),uu,uu,uu,uu,uu,uu,uu,uu,uu,uu,uu,uu,uu,uu,uu,uu,uu,uu,uu,uu,uu,uu,uu,uu,uu,uu,uu,uu,uu,uu,uu,uu,uu,uu,uu,uu,uu,uu,uu,uu,uu,uu,uu,uu,uu,uu,uu,uu,uu,uu,uu,uu,uu,uu,uu,uu,uu,uu,uu,uu,uu,uu,uu,uu,uu,uu,uu,uu,uu,uu,uu,uu,uu,uu,uu,uu,uu,uu,uu,uu,uu,uu,uu,uu,uu,uu,uu,uu,uu,uu,uu,uu,uu,uu,uu,uu,uu,uu,uu,uu,uu,uu,uu,uu,uu,uu,uu,uu,uu,uu,uu,uu,uu,uu,uu,uu,uu,uu,uu,uu,uu,uu]→(∀x10 x101 x102 x103 x104 x105 x106 x107 x108 x109 x110 x111 x112 x113 x114 x115 x116:AV,nxt C P false is [.row (.stk n) 0 N N,.s (.int .i64 (a:Nat)),.s (.int .i64 (b:Nat)),uu,uu,uu,uu,.s (.int .i64 (i:Nat)),.s (.int .i64 (st:Nat)),.undef,x10,uu,uu,uu,uu,uu,uu,uu,uu,uu,uu,uu,uu,uu,uu,uu,uu,uu,uu,uu,uu,uu,uu,uu,uu,uu,uu,uu,uu,uu,uu,uu,uu,uu,uu,uu,uu,uu,uu,uu,uu,uu,uu,uu,uu,uu,uu,uu,uu,uu,uu,uu,uu,uu,uu,uu,uu,uu,uu,uu,uu,uu,uu,uu,uu,uu,uu,uu,uu,uu,uu,uu,uu,uu,uu,uu,uu,uu,uu,uu,uu,uu,uu,uu,uu,uu,uu,uu,uu,uu,uu,x101,x102,x103,x104,x105,x106,x107,x108,x109,x110,x111,x112,x113,x114,x115,x116,uu,uu,uu,uu,uu,uu,uu,uu,uu,uu,uu,uu,uu,uu,uu,uu] ⟨S.set n (flat iA (Sort.shiftUp ltI b j d)),H⟩ K)→runLp C P false (zm false [0,3,4,2,1,1,122]) (y9p12 c) n0 (.blk 6 :: is) fr ⟨S.set n (flat iA d),H⟩ K:=by
  intro j d fr hj1 hj hd hk hX
  generalize hR:Sort.shiftUp ltI b j d=R at hX
  subst hn0
  obtain ⟨z,hz⟩:∃z,S[n]? = some z:=⟨_,List.getElem?_eq_getElem hn⟩
  refine loop_rule hC (α:=Nat×Array Int) (fun x=>b - x.1) (fun x=>[.row (.stk n) 0 N N,.s (.int .i64 (a:Nat)),.s (.int .i64 (b:Nat)),uu,uu,uu,uu,.s (.int .i64 (i:Nat)),.s (.int .i64 (st:Nat)),.undef,.s (.int .i64 (x.1:Nat)),uu,uu,uu,uu,uu,uu,uu,uu,uu,uu,uu,uu,uu,uu,uu,uu,uu,uu,uu,uu,uu,uu,uu,uu,uu,uu,uu,uu,uu,uu,uu,uu,uu,uu,uu,uu,uu,uu,uu,uu,uu,uu,uu,uu,uu,uu,uu,uu,uu,uu,uu,uu,uu,uu,uu,uu,uu,uu,uu,uu,uu,uu,uu,uu,uu,uu,uu,uu,uu,uu,uu,uu,uu,uu,uu,uu,uu,uu,uu,uu,uu,uu,uu,uu,uu,uu,uu,uu,uu,uu,uu,uu,uu,uu,uu,uu,uu,uu,uu,uu,uu,uu,uu,uu,uu,uu,uu,uu,uu,uu,uu,uu,uu,uu,uu,uu,uu,uu,uu,uu,uu,uu]) (fun x=>S.set n (flat iA x.2)) (fun _=>H) (fun x=>1≤x.1∧x.1≤b∧x.2.size=N∧R=Sort.shiftUp ltI b x.1 x.2) (j,d) ⟨hj1,hj,hd,hR.symm⟩ hk (by rw [List.take_of_length_le]; simp) rfl (fun x _=>by simp [AV.under,AV.under.go,hn]) ?_
  rintro ⟨x,e⟩ ⟨hx1,hx,hes,hinv⟩ ih
  dsimp only at hx1 hx hes hinv ih ⊢
  have hSe:(S.set n (flat iA e))[n]? = some (flat iA e):=sset hz
  rw [Sort.shiftUp] at hinv
  by_cases hxb:x < b
  case neg =>
    have hlt:¬((x:Int) < (b:Int)):=by omega
    rw [if_neg hxb] at hinv
    rw [hinv] at hX
    simp only [C_slices_partialInsertionSortOrdered_int64,A_,simprocAttr,ne_eq,(U_slices_partialInsertionSortOrdered_int64 _).1,hlt]
    exact hX _ _ _ _ _ _ _ _ _ _ _ _ _ _ _ _ _
  have hlt:((x:Int) < (b:Int)):=by omega
  rw [if_pos hxb] at hinv
  obtain ⟨y,rfl⟩:∃y,x=y + 1:=⟨x - 1,by omega⟩
  rw [Nat.add_sub_cancel] at hinv
  have hw0:IntKind.i64.wrap (((y + 1:Nat):Int) - 1)=((y:Nat):Int):=by rw [wrap_i64 (by omega) (by omega)]; omega
  have hw1:IntKind.i64.wrap (((y + 1:Nat):Int) + 1)=((y + 1 + 1:Nat):Int):=by rw [wrap_i64 (by omega) (by omega)]; omega
  have xa:∀kk:IntKind,indexAddrL (.sl 1) (.row (.stk n) 0 N N) (.s (.int kk ((y + 1:Nat):Int)))=some (.ptr (.stk n) (y + 1)):=fun kk=>ixi (by omega)
  have xb:∀kk:IntKind,indexAddrL (.sl 1) (.row (.stk n) 0 N N) (.s (.int kk ((y:Nat):Int)))=some (.ptr (.stk n) (y)):=fun kk=>ixi (by omega)
  have ra:=ird (H:=H) hSe (i:=y + 1) (by omega)
  have rb:=ird (H:=H) hSe (i:=y) (by omega)
  obtain ⟨wa,wb⟩:=sw2 (H:=H) hSe (i:=y + 1) (j:=y) (by omega) (by omega)
  rw [List.set_set] at wa wb
  rw [List.set_set] at wb
  simp only [C_slices_partialInsertionSortOrdered_int64,A_,simprocAttr,ne_eq,(U_slices_partialInsertionSortOrdered_int64 _).1,hlt,hw0,xa,xb,ra,rb]
  refine h0 _ _ _ _ _ ?_
  cases hlk:ltI e[y + 1]! e[y]! with
  | false =>
    rw [hlk,if_pos (by rfl)] at hinv
    rw [hinv] at hX
    simp only [C_slices_partialInsertionSortOrdered_int64,A_,simprocAttr,ne_eq,(U_slices_partialInsertionSortOrdered_int64 _).1]
    exact hX _ _ _ _ _ _ _ _ _ _ _ _ _ _ _ _ _
  | true =>
    rw [hlk,if_neg (by simp)] at hinv
    simp only [C_slices_partialInsertionSortOrdered_int64,A_,simprocAttr,ne_eq,(U_slices_partialInsertionSortOrdered_int64 _).1,hw0,hw1,xa,xb,ra,rb,wa,wb]
    exact ih (y + 1 + 1,Sort.swp e (y + 1) y) _ _ _ (by dsimp only; omega) ⟨by dsimp only; omega,by dsimp only; omega,by rw [swp_size]; exact hes,hinv⟩ (by simp [keep,zm]; omega) (by rw [List.take_of_length_le]; simp) rfl
def PinS (C:CallW) (f:FuncId):Prop:=∀(n:Nat) (d:Array Int) (a b:Nat) S H (K:AV→St→Prop),S[n]? = some (flat iA d)→a < b→b≤d.size→d.size≤2305843009213693952→K (.bool (Sort.partialInsertionSort ltI d a b).2) ⟨S.set n (flat iA (Sort.partialInsertionSort ltI d a b).1),H⟩→C (.fn f) [.row (.stk n) 0 d.size d.size,.s (.int .i64 a),.s (.int .i64 b)] ⟨S,H⟩ K
set_option maxHeartbeats 16000000 in
theorem partialIns_spec {C:CallW} (hC:LeC C C) (P:Program) {c:Nat→FuncId} (h0:LessS C (c 0)):∀(n:Nat) (d:Array Int) (a b:Nat) S H (K:AV→St→Prop),S[n]? = some (flat iA d)→a < b→b≤d.size→d.size≤2305843009213693952→K (.bool (Sort.partialInsertionSort ltI d a b).2) ⟨S.set n (flat iA (Sort.partialInsertionSort ltI d a b).1),H⟩→runL C P (C_slices_partialInsertionSortOrdered_int64 c) [.row (.stk n) 0 d.size d.size,.s (.int .i64 a),.s (.int .i64 b)] ⟨S,H⟩ K:=by
  intro n d a b S H K hS hab hbd hdl hK
  have hn:=slt hS
  unfold Sort.partialInsertionSort at hK
  generalize hX:Sort.partialIns ltI a b 5 (a + 1) d=X at hK
  have hw0:IntKind.i64.wrap ((a:Int) + 1)=((a + 1:Nat):Int):=by rw [wrap_i64 (by omega) (by omega)]; omega
  obtain ⟨N,hN⟩:∃N,d.size=N:=⟨_,rfl⟩
  rw [hN] at hbd hdl ⊢
  simp only [C_slices_partialInsertionSortOrdered_int64,A_,simprocAttr,ne_eq,(U_slices_partialInsertionSortOrdered_int64 _).1,hw0]
  refine loop_rule hC (α:=Nat×Nat×Array Int) (fun x=>x.1) (fun x=>[.row (.stk n) 0 N N,.s (.int .i64 (a:Nat)),.s (.int .i64 (b:Nat)),uu,uu,uu,uu,.s (.int .i64 (x.2.1:Nat)),.s (.int .i64 ((5 - x.1:Nat):Int)),uu,uu,uu,uu,uu,uu,uu,uu,uu,uu,uu,uu,uu,uu,uu,uu,uu,uu,uu,uu,uu,uu,uu,uu,uu,uu,uu,uu,uu,uu,uu,uu,uu,uu,uu,uu,uu,uu,uu,uu,uu,uu,uu,uu,uu,uu,uu,uu,uu,uu,uu,uu,uu,uu,uu,uu,uu,uu,uu,uu,uu,uu,uu,uu,uu,uu,uu,uu,uu,uu,uu,uu,uu,uu,uu,uu,uu,uu,uu,uu,uu,uu,uu,uu,uu,uu,uu,uu,uu,uu,uu,uu,uu,uu,uu,uu,uu,uu,uu,uu,uu,uu,uu,uu,uu,uu,uu,uu,uu,uu,uu,uu,uu,uu,uu,uu,uu,uu,uu,uu,uu,uu,uu,uu]) (fun x=>S.set n (flat iA x.2.2)) (fun _=>H) (fun x=>x.1≤5∧1≤x.2.1∧a < x.2.1∧x.2.1≤b∧x.2.2.size=N∧X=Sort.partialIns ltI a b x.1 x.2.1 x.2.2) (5,a + 1,d) ⟨by dsimp only; omega,by dsimp only; omega,by dsimp only; omega,by dsimp only; omega,hN,hX.symm⟩ (by simp [keep,zm]) (by rw [sself hS,List.take_of_length_le (Nat.le_refl _)]) rfl (fun x _=>by simp [AV.under,AV.under.go,hn]) ?_
  rintro ⟨s,i,e⟩ ⟨hs,hi1,hai,hi,hes,hinv⟩ ih
  dsimp only at hs hi1 hai hi hes hinv ih ⊢
  cases s with
  | zero =>
    have hlt:(((5 - 0:Nat):Int) < 5)=False:=eq_false (by omega)
    have hlt2:(((5:Nat):Int) < 5)=False:=eq_false (by omega)
    rw [Sort.partialIns] at hinv
    rw [hinv] at hK
    simp only [C_slices_partialInsertionSortOrdered_int64,A_,simprocAttr,ne_eq,(U_slices_partialInsertionSortOrdered_int64 _).1,hlt,hlt2]
    exact hK
  | succ s =>
    obtain ⟨st,hst⟩:∃st,5 - (s + 1)=st:=⟨_,rfl⟩
    have hlt:((st:Int) < 5)=True:=eq_true (by omega)
    have hws:IntKind.i64.wrap ((st:Int) + 1)=((5 - s:Nat):Int):=by rw [wrap_i64 (by omega) (by omega)]; omega
    rw [Sort.partialIns] at hinv
    dsimp only at hinv
    simp only [C_slices_partialInsertionSortOrdered_int64,A_,simprocAttr,ne_eq,(U_slices_partialInsertionSortOrdered_int64 _).1,hst,hlt]
    refine y9p2_loop (a:=a) (b:=b) (st:=st) hC P h0 (sset hS) (by simp) hes hbd hdl i _ hi1 hi (by simp [keep,zm]) ?_
    obtain ⟨u1,u2⟩:=scanSorted_bd e b _ i (Nat.le_refl _) hi
    obtain ⟨k,hk⟩:∃k,Sort.scanSorted ltI e b i=k:=⟨_,rfl⟩
    rw [hk] at u1 u2 ⊢
    simp only [hk] at hinv
    intro x17 x18 x19 x20 x21 x22 x23 x24 x25 x26 x27 x28 x29 x30 x31 x32
    by_cases hkb:k=b
    · have hlt3:((k:Int)=(b:Int))=True:=eq_true (by omega)
      rw [if_pos hkb] at hinv
      rw [hinv] at hK
      simp only [C_slices_partialInsertionSortOrdered_int64,A_,simprocAttr,ne_eq,(U_slices_partialInsertionSortOrdered_int64 _).1,hlt3]
      exact hK
    have hlt3:((k:Int)=(b:Int))=False:=eq_false (by omega)
    rw [if_neg hkb] at hinv
    have hwb:IntKind.i64.wrap ((b:Int) - (a:Int))=((b - a:Nat):Int):=by rw [wrap_i64 (by omega) (by omega)]; omega
    by_cases h50:b - a < 50
    · have hlt4:(((b - a:Nat):Int) < 50)=True:=eq_true (by omega)
      rw [if_pos h50] at hinv
      rw [hinv] at hK
      simp only [C_slices_partialInsertionSortOrdered_int64,A_,simprocAttr,ne_eq,(U_slices_partialInsertionSortOrdered_int64 _).1,hlt3,hwb,hlt4]
      exact hK
    have hlt4:(((b - a:Nat):Int) < 50)=False:=eq_false (by omega)
    rw [if_neg h50] at hinv
    have hSe:(S.set n (flat iA e))[n]? = some (flat iA e):=sset hS
    have hwk:IntKind.i64.wrap ((k:Int) - 1)=((k - 1:Nat):Int):=by rw [wrap_i64 (by omega) (by omega)]; omega
    have hwk2:IntKind.i64.wrap ((k:Int) + 1)=((k + 1:Nat):Int):=by rw [wrap_i64 (by omega) (by omega)]; omega
    have hwka:IntKind.i64.wrap ((k:Int) - (a:Int))=((k - a:Nat):Int):=by rw [wrap_i64 (by omega) (by omega)]; omega
    have hwbk:IntKind.i64.wrap ((b:Int) - (k:Int))=((b - k:Nat):Int):=by rw [wrap_i64 (by omega) (by omega)]; omega
    have xa:∀kk:IntKind,indexAddrL (.sl 1) (.row (.stk n) 0 N N) (.s (.int kk ((k:Nat):Int)))=some (.ptr (.stk n) (k)):=fun kk=>ixi (by omega)
    have xb:∀kk:IntKind,indexAddrL (.sl 1) (.row (.stk n) 0 N N) (.s (.int kk ((k - 1:Nat):Int)))=some (.ptr (.stk n) (k - 1)):=fun kk=>ixi (by omega)
    have ra:=ird (H:=H) hSe (i:=k) (by omega)
    have rb:=ird (H:=H) hSe (i:=k - 1) (by omega)
    obtain ⟨wa,wb⟩:=sw2 (H:=H) hSe (i:=k) (j:=k - 1) (by omega) (by omega)
    rw [List.set_set] at wa wb
    rw [List.set_set] at wb
    have hgs:(Sort.swp e k (k - 1)).size=N:=by rw [swp_size]; exact hes
    by_cases h2:2≤k - a
    · have hlt5:((2:Int)≤((k - a:Nat):Int))=True:=eq_true (by omega)
      rw [if_pos h2] at hinv
      simp only [C_slices_partialInsertionSortOrdered_int64,A_,simprocAttr,ne_eq,(U_slices_partialInsertionSortOrdered_int64 _).1,hlt3,hwb,hlt4,hwk,hwka,hwbk,xa,xb,ra,rb,wa,wb,hlt5]
      refine y9p6_loop (a:=a) (b:=b) (i:=k) (st:=st) hC P h0 hn rfl hdl (k - 1) _ _ (by omega) hgs (by simp [keep,zm]) ?_
      intro x9 x64 x65 x66 x67 x68 x69 x70 x71 x72 x73 x74 x75 x76 x77 x78
      have hgs2:(Sort.shiftDown ltI (k - 1) (Sort.swp e k (k - 1))).size=N:=by rw [shiftDown_size]; exact hgs
      generalize Sort.shiftDown ltI (k - 1) (Sort.swp e k (k - 1))=g at hinv hgs2 ⊢
      by_cases h3:2≤b - k
      · have hlt6:((2:Int)≤((b - k:Nat):Int))=True:=eq_true (by omega)
        rw [if_pos h3] at hinv
        simp only [C_slices_partialInsertionSortOrdered_int64,A_,simprocAttr,ne_eq,(U_slices_partialInsertionSortOrdered_int64 _).1,hwbk,hlt6,hwk2]
        refine y9p12_loop (a:=a) (b:=b) (i:=k) (st:=st) hC P h0 hn rfl hbd hdl (k + 1) _ _ (by omega) (by omega) hgs2 (by simp [keep,zm]) ?_
        intro x10 x101 x102 x103 x104 x105 x106 x107 x108 x109 x110 x111 x112 x113 x114 x115 x116
        simp only [C_slices_partialInsertionSortOrdered_int64,A_,simprocAttr,ne_eq,(U_slices_partialInsertionSortOrdered_int64 _).1,hws]
        exact ih (s,k,Sort.shiftUp ltI b (k + 1) g) _ _ _ (by dsimp only; omega) ⟨by dsimp only; omega,by dsimp only; omega,by dsimp only; omega,by dsimp only; omega,by rw [shiftUp_size b _ _ _ (Nat.le_refl _)]; exact hgs2,hinv⟩ (by simp [keep,zm]) (by rw [List.take_of_length_le]; simp) rfl
      · have hlt6:((2:Int)≤((b - k:Nat):Int))=False:=eq_false (by omega)
        rw [if_neg h3] at hinv
        simp only [C_slices_partialInsertionSortOrdered_int64,A_,simprocAttr,ne_eq,(U_slices_partialInsertionSortOrdered_int64 _).1,hwbk,hlt6,hws]
        exact ih (s,k,g) _ _ _ (by dsimp only; omega) ⟨by dsimp only; omega,by dsimp only; omega,by dsimp only; omega,by dsimp only; omega,hgs2,hinv⟩ (by simp [keep,zm]) (by rw [List.take_of_length_le]; simp) rfl
    · have hlt5:((2:Int)≤((k - a:Nat):Int))=False:=eq_false (by omega)
      rw [if_neg h2] at hinv
      simp only [C_slices_partialInsertionSortOrdered_int64,A_,simprocAttr,ne_eq,(U_slices_partialInsertionSortOrdered_int64 _).1,hlt3,hwb,hlt4,hwk,hwka,hwbk,xa,xb,ra,rb,wa,wb,hlt5]
      have hgs2:=hgs
      generalize Sort.swp e k (k - 1)=g at hinv hgs2 ⊢
      by_cases h3:2≤b - k
      · have hlt6:((2:Int)≤((b - k:Nat):Int))=True:=eq_true (by omega)
        rw [if_pos h3] at hinv
        simp only [C_slices_partialInsertionSortOrdered_int64,A_,simprocAttr,ne_eq,(U_slices_partialInsertionSortOrdered_int64 _).1,hwbk,hlt6,hwk2]
        refine y9p12_loop (a:=a) (b:=b) (i:=k) (st:=st) hC P h0 hn rfl hbd hdl (k + 1) _ _ (by omega) (by omega) hgs2 (by simp [keep,zm]) ?_
        intro x10 x101 x102 x103 x104 x105 x106 x107 x108 x109 x110 x111 x112 x113 x114 x115 x116
        simp only [C_slices_partialInsertionSortOrdered_int64,A_,simprocAttr,ne_eq,(U_slices_partialInsertionSortOrdered_int64 _).1,hws]
        exact ih (s,k,Sort.shiftUp ltI b (k + 1) g) _ _ _ (by dsimp only; omega) ⟨by dsimp only; omega,by dsimp only; omega,by dsimp only; omega,by dsimp only; omega,by rw [shiftUp_size b _ _ _ (Nat.le_refl _)]; exact hgs2,hinv⟩ (by simp [keep,zm]) (by rw [List.take_of_length_le]; simp) rfl
      · have hlt6:((2:Int)≤((b - k:Nat):Int))=False:=eq_false (by omega)
        rw [if_neg h3] at hinv
        simp only [C_slices_partialInsertionSortOrdered_int64,A_,simprocAttr,ne_eq,(U_slices_partialInsertionSortOrdered_int64 _).1,hwbk,hlt6,hws]
        exact ih (s,k,g) _ _ _ (by dsimp only; omega) ⟨by dsimp only; omega,by dsimp only; omega,by dsimp only; omega,by dsimp only; omega,hgs2,hinv⟩ (by simp [keep,zm]) (by rw [List.take_of_length_le]; simp) rfl
end Go.AM
namespace Go.AM
open Go
open AV renaming undef → uu
set_option maxRecDepth 20000
theorem SrtS.at {C:CallW} {f:FuncId} {X:Array Int→Nat→Nat→Array Int} (h:SrtS C f X) {N:Nat} (n:Nat) (d:Array Int) (a b:Nat) (S:List (List AV)) (H:List HObj) (K:AV→St→Prop) (hS:S[n]? = some (flat iA d)) (hd:d.size=N) (h1:a≤b) (h2:b≤N) (h3:N≤2305843009213693952) (hK:K (.tup []) ⟨S.set n (flat iA (X d a b)),H⟩):C (.fn f) [.row (.stk n) 0 N N,.s (.int .i64 a),.s (.int .i64 b)] ⟨S,H⟩ K:=by
  subst hd; exact h n d a b S H K hS h1 h2 (by omega) hK
theorem SrtT.at {C:CallW} {f:FuncId} {X:Array Int→Nat→Nat→Array Int} (h:SrtT C f X) {N:Nat} (n:Nat) (d:Array Int) (a b:Nat) (S:List (List AV)) (H:List HObj) (K:AV→St→Prop) (hS:S[n]? = some (flat iA d)) (hd:d.size=N) (h1:a < b) (h2:b≤N) (h3:N≤2305843009213693952) (hK:K (.tup []) ⟨S.set n (flat iA (X d a b)),H⟩):C (.fn f) [.row (.stk n) 0 N N,.s (.int .i64 a),.s (.int .i64 b)] ⟨S,H⟩ K:=by
  subst hd; exact h n d a b S H K hS h1 h2 h3 hK
theorem ChpS.at {C:CallW} {f:FuncId} (h:ChpS C f) {N:Nat} (n:Nat) (d:Array Int) (a b:Nat) (S:List (List AV)) (H:List HObj) (K:AV→St→Prop) (hS:S[n]? = some (flat iA d)) (hd:d.size=N) (h1:a < b) (h2:b≤N) (h3:N≤2305843009213693952) (hK:K (.tup [.s (.int .i64 (Sort.choosePivot ltI d a b).1),.s (.int .i64 (hI (Sort.choosePivot ltI d a b).2))]) ⟨S,H⟩):C (.fn f) [.row (.stk n) 0 N N,.s (.int .i64 a),.s (.int .i64 b)] ⟨S,H⟩ K:=by
  subst hd; exact h n d a b S H K hS h1 h2 h3 hK
theorem PinS.at {C:CallW} {f:FuncId} (h:PinS C f) {N:Nat} (n:Nat) (d:Array Int) (a b:Nat) (S:List (List AV)) (H:List HObj) (K:AV→St→Prop) (hS:S[n]? = some (flat iA d)) (hd:d.size=N) (h1:a < b) (h2:b≤N) (h3:N≤2305843009213693952) (hK:K (.bool (Sort.partialInsertionSort ltI d a b).2) ⟨S.set n (flat iA (Sort.partialInsertionSort ltI d a b).1),H⟩):C (.fn f) [.row (.stk n) 0 N N,.s (.int .i64 a),.s (.int .i64 b)] ⟨S,H⟩ K:=by
  subst hd; exact h n d a b S H K hS h1 h2 h3 hK
theorem PeqS.at {C:CallW} {f:FuncId} (h:PeqS C f) {N:Nat} (n:Nat) (d:Array Int) (a b p:Nat) (S:List (List AV)) (H:List HObj) (K:AV→St→Prop) (hS:S[n]? = some (flat iA d)) (hd:d.size=N) (h0:a≤p) (h1:p < b) (h2:b≤N) (h3:N≤2305843009213693952) (hK:K (.s (.int .i64 (Sort.partitionEqual ltI d a b p).1)) ⟨S.set n (flat iA (Sort.partitionEqual ltI d a b p).2),H⟩):C (.fn f) [.row (.stk n) 0 N N,.s (.int .i64 a),.s (.int .i64 b),.s (.int .i64 p)] ⟨S,H⟩ K:=by
  subst hd; exact h n d a b p S H K hS h0 h1 h2 h3 hK
theorem PartS.at {C:CallW} {f:FuncId} (h:PartS C f) {N:Nat} (n:Nat) (d:Array Int) (a b p:Nat) (S:List (List AV)) (H:List HObj) (K:AV→St→Prop) (hS:S[n]? = some (flat iA d)) (hd:d.size=N) (h0:a≤p) (h1:p < b) (h2:b≤N) (h3:N≤2305843009213693952) (hK:K (.tup [.s (.int .i64 (Sort.partition ltI d a b p).1),.s (.bool (Sort.partition ltI d a b p).2.1)]) ⟨S.set n (flat iA (Sort.partition ltI d a b p).2.2),H⟩):C (.fn f) [.row (.stk n) 0 N N,.s (.int .i64 a),.s (.int .i64 b),.s (.int .i64 p)] ⟨S,H⟩ K:=by
  subst hd; exact h n d a b p S H K hS h0 h1 h2 h3 hK
def PdqS (C:CallW) (f:FuncId) (m:Nat):Prop:=∀(n:Nat) (d:Array Int) (a b lim:Nat) (S:List (List AV)) (H:List HObj) (K:AV→St→Prop),S[n]? = some (flat iA d)→a≤b→b≤d.size→d.size≤2305843009213693952→b - a < m→lim≤2305843009213693952→Sort.Below ltI a b d→(∀R,Sort.PermIn a b d R→Sort.SortedIn ltI a b R→K (.tup []) ⟨S.set n (flat iA R),H⟩)→C (.fn f) [.row (.stk n) 0 d.size d.size,.s (.int .i64 a),.s (.int .i64 b),.s (.int .i64 lim)] ⟨S,H⟩ K
theorem PdqS.at {C:CallW} {f:FuncId} {m:Nat} (h:PdqS C f m) {N:Nat} (n:Nat) (d:Array Int) (a b lim:Nat) (S:List (List AV)) (H:List HObj) (K:AV→St→Prop) (hS:S[n]? = some (flat iA d)) (hd:d.size=N) (h1:a≤b) (h2:b≤N) (h3:N≤2305843009213693952) (h4:b - a < m) (h5:lim≤2305843009213693952) (hB:Sort.Below ltI a b d) (hK:∀R,Sort.PermIn a b d R→Sort.SortedIn ltI a b R→K (.tup []) ⟨S.set n (flat iA R),H⟩):C (.fn f) [.row (.stk n) 0 N N,.s (.int .i64 a),.s (.int .i64 b),.s (.int .i64 lim)] ⟨S,H⟩ K:=by
  subst hd; exact h n d a b lim S H K hS h1 h2 h3 h4 h5 hB hK
set_option maxHeartbeats 16000000 in
theorem y9s19_run {C : CallW} (hC : LeC C C) (P : Program) {c : Nat → FuncId} {m : Nat} (h6 : LessS C (c 6)) (h7 : PeqS C (c 7)) (h8 : PartS C (c 8)) (h9 : PdqS C (c 9) m) {n N a b L lim piv n0 : Nat} {wb wp : Bool} {e : Array Int} {S : List (List AV)} {H : List HObj} {is : List Item} {K : KC} (hS : S[n]? = some (flat iA e)) (hn0 : n0 = S.length) (hes : e.size = N) (hap : a ≤ piv) (hpb : piv < b) (hb : b ≤ N) (hN : N ≤ 2305843009213693952) (hL : L ≤ N) (hlim : lim ≤ 2305843009213693952) (hm : b - a ≤ m) (hB : Sort.Below ltI a b e)
    (hloop:∀(a' b' lim':Nat) (wb' wp':Bool) (e':Array Int) (fr':Fr) (S':List (List AV)),keep (zm false [0,4,4,2,124]) fr'=[.row (.stk n) 0 N N,.s (.int .i64 (a':Nat)),.s (.int .i64 (b':Nat)),.s (.int .i64 (lim':Nat)),uu,uu,uu,uu,.s (.bool wb'),.s (.bool wp'),uu,uu,uu,uu,uu,uu,uu,uu,uu,uu,uu,uu,uu,uu,uu,uu,uu,uu,uu,uu,uu,uu,uu,uu,uu,uu,uu,uu,uu,uu,uu,uu,uu,uu,uu,uu,uu,uu,uu,uu,uu,uu,uu,uu,uu,uu,uu,uu,uu,uu,uu,uu,uu,uu,uu,uu,uu,uu,uu,uu,uu,uu,uu,uu,uu,uu,uu,uu,uu,uu,uu,uu,uu,uu,uu,uu,uu,uu,uu,uu,uu,uu,uu,uu,uu,uu,uu,uu,uu,uu,uu,uu,uu,uu,uu,uu,uu,uu,uu,uu,uu,uu,uu,uu,uu,uu,uu,uu,uu,uu,uu,uu,uu,uu,uu,uu,uu,uu,uu,uu,uu,uu,uu,uu]→S'.take n0=S.set n (flat iA e')→e'.size=N→b' - a' < b - a→a≤a'→b'≤b→a'≤b'→lim'≤2305843009213693952→Sort.Below ltI a' b' e'→(∀R,Sort.PermIn a' b' e' R→Sort.SortedIn ltI a' b' R→Sort.PermIn a b e R∧Sort.SortedIn ltI a b R)→runLp C P false (zm false [0,4,4,2,124]) (y9s26 c) n0 is fr' ⟨S',H⟩ K) :
    ∀(x4 x5 x6 x7 x12 x13 x14 x15 x16 x17 x18 x19 x20 x21 x22 x23 x24 x25 x26 x27 x28 x29 x30 x31 x32 x33 x34 x35 x36 x37 x38 x39 x40 x41 x42 x43 x44 x45 x46 x47 x48 x49 x50 x51 x52 x53 x54 x55 x56 x57 x58 x59 x60 x61 x62 x63 x64 x65 x66 x67 x68 x69 x70 x71 x72 x73 x74 x75 x76 x77 x78 x79 x80 x81 x82 x83 x84 x85 x86 x87 x88 x89 x90 x91 x92 x93 x94 x95 x96 x97 x98 x99 x100 x101 x102 x103 x104 x105 x106 x107 x108 x109 x110 x111 x112 x113 x114 x115 x116 x117 x118 x119 x120 x121 x122 x123 x124 x125 x126 x127 x128 x129 x130 x131 x132 x133:AV),runC C P false (y9s19 c) (.blk 1 :: .lp (zm false [0,4,4,2,124]) (y9s26 c) n0 :: is) [.row (.stk n) 0 N N,.s (.int .i64 (a:Nat)),.s (.int .i64 (b:Nat)),.s (.int .i64 (lim:Nat)),x4,x5,x6,x7,.s (.bool wb),.s (.bool wp),.s (.int .i64 (L:Nat)),.s (.int .i64 (piv:Nat)),x12,x13,x14,x15,x16,x17,x18,x19,x20,x21,x22,x23,x24,x25,x26,x27,x28,x29,x30,x31,x32,x33,x34,x35,x36,x37,x38,x39,x40,x41,x42,x43,x44,x45,x46,x47,x48,x49,x50,x51,x52,x53,x54,x55,x56,x57,x58,x59,x60,x61,x62,x63,x64,x65,x66,x67,x68,x69,x70,x71,x72,x73,x74,x75,x76,x77,x78,x79,x80,x81,x82,x83,x84,x85,x86,x87,x88,x89,x90,x91,x92,x93,x94,x95,x96,x97,x98,x99,x100,x101,x102,x103,x104,x105,x106,x107,x108,x109,x110,x111,x112,x113,x114,x115,x116,x117,x118,x119,x120,x121,x122,x123,x124,x125,x126,x127,x128,x129,x130,x131,x132,x133] ⟨S,H⟩ K:=by
  intro x4 x5 x6 x7 x12 x13 x14 x15 x16 x17 x18 x19 x20 x21 x22 x23 x24 x25 x26 x27 x28 x29 x30 x31 x32 x33 x34 x35 x36 x37 x38 x39 x40 x41 x42 x43 x44 x45 x46 x47 x48 x49 x50 x51 x52 x53 x54 x55 x56 x57 x58 x59 x60 x61 x62 x63 x64 x65 x66 x67 x68 x69 x70 x71 x72 x73 x74 x75 x76 x77 x78 x79 x80 x81 x82 x83 x84 x85 x86 x87 x88 x89 x90 x91 x92 x93 x94 x95 x96 x97 x98 x99 x100 x101 x102 x103 x104 x105 x106 x107 x108 x109 x110 x111 x112 x113 x114 x115 x116 x117 x118 x119 x120 x121 x122 x123 x124 x125 x126 x127 x128 x129 x130 x131 x132 x133
  have hn:=slt hS
  by_cases ha0:0 < a
  · have hlt:((0:Int) < (a:Int))=True:=eq_true (by omega)
    have hwa:IntKind.i64.wrap ((a:Int) - 1)=((a - 1:Nat):Int):=by rw [wrap_i64 (by omega) (by omega)]; omega
    have xa:∀kk:IntKind,indexAddrL (.sl 1) (.row (.stk n) 0 N N) (.s (.int kk ((a - 1:Nat):Int)))=some (.ptr (.stk n) (a - 1)):=fun kk=>ixi (by omega)
    have xb:∀kk:IntKind,indexAddrL (.sl 1) (.row (.stk n) 0 N N) (.s (.int kk (piv:Int)))=some (.ptr (.stk n) piv):=fun kk=>ixi (by omega)
    have ra:=ird (H:=H) hS (i:=a - 1) (by omega)
    have rb:=ird (H:=H) hS (i:=piv) (by omega)
    simp only [unfC (y9s8.eq_1 c),unfC (y9s9.eq_1 c),unfC (y9s10.eq_1 c),unfC (y9s11.eq_1 c),unfC (y9s12.eq_1 c),unfC (y9s13.eq_1 c),unfC (y9s14.eq_1 c),unfC (y9s15.eq_1 c),unfC (y9s16.eq_1 c),unfC (y9s17.eq_1 c),unfC (y9s18.eq_1 c),unfC (y9s19.eq_1 c),A_,simprocAttr,ne_eq,hlt,hwa,xa,xb,ra,rb]
    refine h6 _ _ _ _ _ ?_
    cases hlk:ltI e[a - 1]! e[piv]! with
    | false =>
      simp only [unfC (y9s8.eq_1 c),unfC (y9s9.eq_1 c),unfC (y9s10.eq_1 c),unfC (y9s11.eq_1 c),unfC (y9s12.eq_1 c),unfC (y9s13.eq_1 c),unfC (y9s14.eq_1 c),unfC (y9s15.eq_1 c),unfC (y9s16.eq_1 c),unfC (y9s17.eq_1 c),unfC (y9s18.eq_1 c),unfC (y9s19.eq_1 c),A_,simprocAttr,ne_eq]
      refine h7.at n e a b piv _ _ _ hS hes hap hpb hb hN ?_
      obtain ⟨⟨mid,d4⟩,hx⟩:∃r,Sort.partitionEqual ltI e a b piv=r:=⟨_,rfl⟩
      obtain ⟨g1,g2,hs4,hB4,hfin⟩:=Sort.round_eq Sort.swo_ltInt (Sort.partitionEqual_holds _) ha0 hap hpb (by omega) hB hlk hx
      have hx':Sort.partitionEqual ltI e a b piv=(mid,d4):=hx
      rw [hx']
      simp only [unfC (y9s8.eq_1 c),unfC (y9s9.eq_1 c),unfC (y9s10.eq_1 c),unfC (y9s11.eq_1 c),unfC (y9s12.eq_1 c),unfC (y9s13.eq_1 c),unfC (y9s14.eq_1 c),unfC (y9s15.eq_1 c),unfC (y9s16.eq_1 c),unfC (y9s17.eq_1 c),unfC (y9s18.eq_1 c),unfC (y9s19.eq_1 c),A_,simprocAttr,ne_eq]
      exact hloop mid b lim wb wp d4 _ _ (by simp [keep,zm]) (by rw [List.take_of_length_le]; simp [hn0]) (hs4.trans hes) (by omega) (by omega) (by omega) (by omega) hlim hB4 hfin
    | true =>
      simp only [unfC (y9s8.eq_1 c),unfC (y9s9.eq_1 c),unfC (y9s10.eq_1 c),unfC (y9s11.eq_1 c),unfC (y9s12.eq_1 c),unfC (y9s13.eq_1 c),unfC (y9s14.eq_1 c),unfC (y9s15.eq_1 c),unfC (y9s16.eq_1 c),unfC (y9s17.eq_1 c),unfC (y9s18.eq_1 c),unfC (y9s19.eq_1 c),A_,simprocAttr,ne_eq]
      refine h8.at n e a b piv _ _ _ hS hes hap hpb hb hN ?_
      obtain ⟨⟨mid,ap,d4⟩,hx⟩:∃r,Sort.partition ltI e a b piv=r:=⟨_,rfl⟩
      obtain ⟨g1,g2,hs4,hBa,hBr,hleft,hright⟩:=Sort.round_part Sort.swo_ltInt (Sort.partition_holds _) hap hpb (by omega) hB hx
      have hx':Sort.partition ltI e a b piv=(mid,ap,d4):=hx
      rw [hx']
      have hsz:d4.size=N:=hs4.trans hes
      have hml:IntKind.i64.wrap ((mid:Int) - (a:Int))=((mid - a:Nat):Int):=by rw [wrap_i64 (by omega) (by omega)]; omega
      have hmr:IntKind.i64.wrap ((b:Int) - (mid:Int))=((b - mid:Nat):Int):=by rw [wrap_i64 (by omega) (by omega)]; omega
      have hq:IntKind.i64.wrap ((L:Int).tdiv 8)=((L / 8:Nat):Int):=by rw [show ((L:Int).tdiv 8)=((L / 8:Nat):Int) from rfl,wrap_i64 (by omega) (by omega)]
      have hm1:IntKind.i64.wrap ((mid:Int) + 1)=((mid + 1:Nat):Int):=by rw [wrap_i64 (by omega) (by omega)]; omega
      by_cases hlr:mid - a < b - mid
      · have hlt2:(((mid - a:Nat):Int) < ((b - mid:Nat):Int))=True:=eq_true (by omega)
        simp only [unfC (y9s8.eq_1 c),unfC (y9s9.eq_1 c),unfC (y9s10.eq_1 c),unfC (y9s11.eq_1 c),unfC (y9s12.eq_1 c),unfC (y9s13.eq_1 c),unfC (y9s14.eq_1 c),unfC (y9s15.eq_1 c),unfC (y9s16.eq_1 c),unfC (y9s17.eq_1 c),unfC (y9s18.eq_1 c),unfC (y9s19.eq_1 c),A_,simprocAttr,ne_eq,hml,hmr,hq,hm1,hlt2]
        refine h9.at n d4 a mid lim _ _ _ (sset hS) hsz g1 (by omega) hN (by omega) hlim hBa fun R hR hsR => ?_
        rw [List.set_set]
        obtain ⟨hBL,hfin⟩:=hleft R hR hsR
        simp only [unfC (y9s8.eq_1 c),unfC (y9s9.eq_1 c),unfC (y9s10.eq_1 c),unfC (y9s11.eq_1 c),unfC (y9s12.eq_1 c),unfC (y9s13.eq_1 c),unfC (y9s14.eq_1 c),unfC (y9s15.eq_1 c),unfC (y9s16.eq_1 c),unfC (y9s17.eq_1 c),unfC (y9s18.eq_1 c),unfC (y9s19.eq_1 c),A_,simprocAttr,ne_eq,hml,hmr,hq,hm1,hlt2]
        exact hloop (mid + 1) b lim (decide (((L / 8:Nat):Int)≤((mid - a:Nat):Int))) ap R _ _ (by simp [keep,zm]) (by rw [List.take_of_length_le]; simp [hn0]) (hR.1.trans hsz) (by omega) (by omega) (by omega) (by omega) hlim hBL hfin
      · have hlt2:(((mid - a:Nat):Int) < ((b - mid:Nat):Int))=False:=eq_false (by omega)
        simp only [unfC (y9s8.eq_1 c),unfC (y9s9.eq_1 c),unfC (y9s10.eq_1 c),unfC (y9s11.eq_1 c),unfC (y9s12.eq_1 c),unfC (y9s13.eq_1 c),unfC (y9s14.eq_1 c),unfC (y9s15.eq_1 c),unfC (y9s16.eq_1 c),unfC (y9s17.eq_1 c),unfC (y9s18.eq_1 c),unfC (y9s19.eq_1 c),A_,simprocAttr,ne_eq,hml,hmr,hq,hm1,hlt2]
        refine h9.at n d4 (mid + 1) b lim _ _ _ (sset hS) hsz (by omega) (by omega) hN (by omega) hlim hBr fun R hR hsR => ?_
        rw [List.set_set]
        obtain ⟨hBL,hfin⟩:=hright R hR hsR
        simp only [unfC (y9s8.eq_1 c),unfC (y9s9.eq_1 c),unfC (y9s10.eq_1 c),unfC (y9s11.eq_1 c),unfC (y9s12.eq_1 c),unfC (y9s13.eq_1 c),unfC (y9s14.eq_1 c),unfC (y9s15.eq_1 c),unfC (y9s16.eq_1 c),unfC (y9s17.eq_1 c),unfC (y9s18.eq_1 c),unfC (y9s19.eq_1 c),A_,simprocAttr,ne_eq,hml,hmr,hq,hm1,hlt2]
        exact hloop a mid lim (decide (((L / 8:Nat):Int)≤((b - mid:Nat):Int))) ap R _ _ (by simp [keep,zm]) (by rw [List.take_of_length_le]; simp [hn0]) (hR.1.trans hsz) (by omega) (by omega) (by omega) (by omega) hlim hBL hfin
  · have hlt:((0:Int) < (a:Int))=False:=eq_false (by omega)
    simp only [unfC (y9s8.eq_1 c),unfC (y9s9.eq_1 c),unfC (y9s10.eq_1 c),unfC (y9s11.eq_1 c),unfC (y9s12.eq_1 c),unfC (y9s13.eq_1 c),unfC (y9s14.eq_1 c),unfC (y9s15.eq_1 c),unfC (y9s16.eq_1 c),unfC (y9s17.eq_1 c),unfC (y9s18.eq_1 c),unfC (y9s19.eq_1 c),A_,simprocAttr,ne_eq,hlt]
    refine h8.at n e a b piv _ _ _ hS hes hap hpb hb hN ?_
    obtain ⟨⟨mid,ap,d4⟩,hx⟩:∃r,Sort.partition ltI e a b piv=r:=⟨_,rfl⟩
    obtain ⟨g1,g2,hs4,hBa,hBr,hleft,hright⟩:=Sort.round_part Sort.swo_ltInt (Sort.partition_holds _) hap hpb (by omega) hB hx
    have hx':Sort.partition ltI e a b piv=(mid,ap,d4):=hx
    rw [hx']
    have hsz:d4.size=N:=hs4.trans hes
    have hml:IntKind.i64.wrap ((mid:Int) - (a:Int))=((mid - a:Nat):Int):=by rw [wrap_i64 (by omega) (by omega)]; omega
    have hmr:IntKind.i64.wrap ((b:Int) - (mid:Int))=((b - mid:Nat):Int):=by rw [wrap_i64 (by omega) (by omega)]; omega
    have hq:IntKind.i64.wrap ((L:Int).tdiv 8)=((L / 8:Nat):Int):=by rw [show ((L:Int).tdiv 8)=((L / 8:Nat):Int) from rfl,wrap_i64 (by omega) (by omega)]
    have hm1:IntKind.i64.wrap ((mid:Int) + 1)=((mid + 1:Nat):Int):=by rw [wrap_i64 (by omega) (by omega)]; omega
    by_cases hlr:mid - a < b - mid
    · have hlt2:(((mid - a:Nat):Int) < ((b - mid:Nat):Int))=True:=eq_true (by omega)
      simp only [unfC (y9s8.eq_1 c),unfC (y9s9.eq_1 c),unfC (y9s10.eq_1 c),unfC (y9s11.eq_1 c),unfC (y9s12.eq_1 c),unfC (y9s13.eq_1 c),unfC (y9s14.eq_1 c),unfC (y9s15.eq_1 c),unfC (y9s16.eq_1 c),unfC (y9s17.eq_1 c),unfC (y9s18.eq_1 c),unfC (y9s19.eq_1 c),A_,simprocAttr,ne_eq,hml,hmr,hq,hm1,hlt2]
      refine h9.at n d4 a mid lim _ _ _ (sset hS) hsz g1 (by omega) hN (by omega) hlim hBa fun R hR hsR => ?_
      rw [List.set_set]
      obtain ⟨hBL,hfin⟩:=hleft R hR hsR
      simp only [unfC (y9s8.eq_1 c),unfC (y9s9.eq_1 c),unfC (y9s10.eq_1 c),unfC (y9s11.eq_1 c),unfC (y9s12.eq_1 c),unfC (y9s13.eq_1 c),unfC (y9s14.eq_1 c),unfC (y9s15.eq_1 c),unfC (y9s16.eq_1 c),unfC (y9s17.eq_1 c),unfC (y9s18.eq_1 c),unfC (y9s19.eq_1 c),A_,simprocAttr,ne_eq,hml,hmr,hq,hm1,hlt2]
      exact hloop (mid + 1) b lim (decide (((L / 8:Nat):Int)≤((mid - a:Nat):Int))) ap R _ _ (by simp [keep,zm]) (by rw [List.take_of_length_le]; simp [hn0]) (hR.1.trans hsz) (by omega) (by omega) (by omega) (by omega) hlim hBL hfin
    · have hlt2:(((mid - a:Nat):Int) < ((b - mid:Nat):Int))=False:=eq_false (by omega)
      simp only [unfC (y9s8.eq_1 c),unfC (y9s9.eq_1 c),unfC (y9s10.eq_1 c),unfC (y9s11.eq_1 c),unfC (y9s12.eq_1 c),unfC (y9s13.eq_1 c),unfC (y9s14.eq_1 c),unfC (y9s15.eq_1 c),unfC (y9s16.eq_1 c),unfC (y9s17.eq_1 c),unfC (y9s18.eq_1 c),unfC (y9s19.eq_1 c),A_,simprocAttr,ne_eq,hml,hmr,hq,hm1,hlt2]
      refine h9.at n d4 (mid + 1) b lim _ _ _ (sset hS) hsz (by omega) (by omega) hN (by omega) hlim hBr fun R hR hsR => ?_
      rw [List.set_set]
      obtain ⟨hBL,hfin⟩:=hright R hR hsR
      simp only [unfC (y9s8.eq_1 c),unfC (y9s9.eq_1 c),unfC (y9s10.eq_1 c),unfC (y9s11.eq_1 c),unfC (y9s12.eq_1 c),unfC (y9s13.eq_1 c),unfC (y9s14.eq_1 c),unfC (y9s15.eq_1 c),unfC (y9s16.eq_1 c),unfC (y9s17.eq_1 c),unfC (y9s18.eq_1 c),unfC (y9s19.eq_1 c),A_,simprocAttr,ne_eq,hml,hmr,hq,hm1,hlt2]
      exact hloop a mid lim (decide (((L / 8:Nat):Int)≤((b - mid:Nat):Int))) ap R _ _ (by simp [keep,zm]) (by rw [List.take_of_length_le]; simp [hn0]) (hR.1.trans hsz) (by omega) (by omega) (by omega) (by omega) hlim hBL hfin
set_option maxHeartbeats 32000000 in
theorem pdqsort_spec {C:CallW} (hC:LeC C C) (P:Program) {c:Nat→FuncId} {m:Nat} (h0:SrtS C (c 0) (Sort.insertionSort ltI)) (h1:SrtT C (c 1) (Sort.heapSort ltI)) (h2:SrtT C (c 2) Sort.breakPatterns) (h3:ChpS C (c 3)) (h4:SrtT C (c 4) Sort.reverseRange) (h5:PinS C (c 5)) (h6:LessS C (c 6)) (h7:PeqS C (c 7)) (h8:PartS C (c 8)) (h9:PdqS C (c 9) m):∀(n:Nat) (d:Array Int) (a b lim:Nat) (S:List (List AV)) (H:List HObj) (K:AV→St→Prop),S[n]? = some (flat iA d)→a≤b→b≤d.size→d.size≤2305843009213693952→b - a < m + 1→lim≤2305843009213693952→Sort.Below ltI a b d→(∀R,Sort.PermIn a b d R→Sort.SortedIn ltI a b R→K (.tup []) ⟨S.set n (flat iA R),H⟩)→runL C P (C_slices_pdqsortOrdered_int64 c) [.row (.stk n) 0 d.size d.size,.s (.int .i64 a),.s (.int .i64 b),.s (.int .i64 lim)] ⟨S,H⟩ K:=by
  intro n d a0 b0 lim0 S H K hS hab0 hbd0 hdl hm0 hlim0 hB0 hK
  have hn:=slt hS
  obtain ⟨N,hN0⟩:∃N,d.size=N:=⟨_,rfl⟩
  rw [hN0] at hbd0 hdl ⊢
  have hN:N≤2305843009213693952:=hdl
  simp only [C_slices_pdqsortOrdered_int64,unfC (y9s1.eq_1 c),unfC (y9s2.eq_1 c),unfC (y9s3.eq_1 c),unfC (y9s4.eq_1 c),unfC (y9s5.eq_1 c),unfC (y9s6.eq_1 c),unfC (y9s7.eq_1 c),unfC (y9s20.eq_1 c),unfC (y9s21.eq_1 c),unfC (y9s22.eq_1 c),unfC (y9s23.eq_1 c),unfC (y9s24.eq_1 c),unfC (y9s25.eq_1 c),unfC (y9s26.eq_1 c),unfC (y9s27.eq_1 c),A_,simprocAttr,ne_eq]
  refine loop_rule hC (α:=Nat×Nat×Nat×Bool×Bool×Array Int) (fun x=>x.2.1 - x.1) (fun x=>[.row (.stk n) 0 N N,.s (.int .i64 (x.1:Nat)),.s (.int .i64 (x.2.1:Nat)),.s (.int .i64 (x.2.2.1:Nat)),uu,uu,uu,uu,.s (.bool x.2.2.2.1),.s (.bool x.2.2.2.2.1),uu,uu,uu,uu,uu,uu,uu,uu,uu,uu,uu,uu,uu,uu,uu,uu,uu,uu,uu,uu,uu,uu,uu,uu,uu,uu,uu,uu,uu,uu,uu,uu,uu,uu,uu,uu,uu,uu,uu,uu,uu,uu,uu,uu,uu,uu,uu,uu,uu,uu,uu,uu,uu,uu,uu,uu,uu,uu,uu,uu,uu,uu,uu,uu,uu,uu,uu,uu,uu,uu,uu,uu,uu,uu,uu,uu,uu,uu,uu,uu,uu,uu,uu,uu,uu,uu,uu,uu,uu,uu,uu,uu,uu,uu,uu,uu,uu,uu,uu,uu,uu,uu,uu,uu,uu,uu,uu,uu,uu,uu,uu,uu,uu,uu,uu,uu,uu,uu,uu,uu,uu,uu,uu,uu]) (fun x=>S.set n (flat iA x.2.2.2.2.2)) (fun _=>H) (fun x=>x.1≤x.2.1∧x.2.1≤N∧x.2.2.2.2.2.size=N∧x.2.2.1≤2305843009213693952∧x.2.1 - x.1≤b0 - a0∧Sort.Below ltI x.1 x.2.1 x.2.2.2.2.2∧∀R,Sort.PermIn x.1 x.2.1 x.2.2.2.2.2 R→Sort.SortedIn ltI x.1 x.2.1 R→Sort.PermIn a0 b0 d R∧Sort.SortedIn ltI a0 b0 R) (a0,b0,lim0,true,true,d) ⟨hab0,hbd0,hN0,hlim0,Nat.le_refl _,hB0,fun R h1 h2=>⟨h1,h2⟩⟩ (by simp [keep,zm]) (by rw [sself hS,List.take_of_length_le (Nat.le_refl _)]) rfl (fun x _=>by simp [AV.under,AV.under.go,hn]) ?_
  rintro ⟨a,b,lim,wb,wp,e⟩ ⟨hab,hbN,hes,hlim,hba,hB,hfin⟩ ih
  dsimp only at hab hbN hes hlim hba hB hfin ih ⊢
  have hbe:b≤e.size:=by omega
  have hw0:IntKind.i64.wrap ((b:Int) - (a:Int))=((b - a:Nat):Int):=by rw [wrap_i64 (by omega) (by omega)]; omega
  have hSe:(S.set n (flat iA e))[n]? = some (flat iA e):=sset hS
  by_cases h12:b - a≤12
  · have hlt:(((b - a:Nat):Int)≤12)=True:=eq_true (by omega)
    simp only [unfC (y9s1.eq_1 c),unfC (y9s2.eq_1 c),unfC (y9s3.eq_1 c),unfC (y9s4.eq_1 c),unfC (y9s5.eq_1 c),unfC (y9s6.eq_1 c),unfC (y9s7.eq_1 c),unfC (y9s20.eq_1 c),unfC (y9s21.eq_1 c),unfC (y9s22.eq_1 c),unfC (y9s23.eq_1 c),unfC (y9s24.eq_1 c),unfC (y9s25.eq_1 c),unfC (y9s26.eq_1 c),unfC (y9s27.eq_1 c),A_,simprocAttr,ne_eq,hw0,hlt]
    refine h0.at n e a b _ _ _ hSe hes hab hbN hN ?_
    rw [List.set_set]
    obtain ⟨q1,q2⟩:=Sort.insertionSort_holds Sort.swo_ltInt e a b hab hbe
    obtain ⟨q3,q4⟩:=hfin _ q1 q2
    simp only [unfC (y9s1.eq_1 c),unfC (y9s2.eq_1 c),unfC (y9s3.eq_1 c),unfC (y9s4.eq_1 c),unfC (y9s5.eq_1 c),unfC (y9s6.eq_1 c),unfC (y9s7.eq_1 c),unfC (y9s20.eq_1 c),unfC (y9s21.eq_1 c),unfC (y9s22.eq_1 c),unfC (y9s23.eq_1 c),unfC (y9s24.eq_1 c),unfC (y9s25.eq_1 c),unfC (y9s26.eq_1 c),unfC (y9s27.eq_1 c),A_,simprocAttr,ne_eq]
    exact hK _ q3 q4
  have hlt:(((b - a:Nat):Int)≤12)=False:=eq_false (by omega)
  by_cases hl0:lim=0
  · subst hl0
    have hlt0:(((0:Nat):Int)=0)=True:=eq_true rfl
    simp only [unfC (y9s1.eq_1 c),unfC (y9s2.eq_1 c),unfC (y9s3.eq_1 c),unfC (y9s4.eq_1 c),unfC (y9s5.eq_1 c),unfC (y9s6.eq_1 c),unfC (y9s7.eq_1 c),unfC (y9s20.eq_1 c),unfC (y9s21.eq_1 c),unfC (y9s22.eq_1 c),unfC (y9s23.eq_1 c),unfC (y9s24.eq_1 c),unfC (y9s25.eq_1 c),unfC (y9s26.eq_1 c),unfC (y9s27.eq_1 c),A_,simprocAttr,ne_eq,hw0,hlt,hlt0]
    refine h1.at n e a b _ _ _ hSe hes (by omega) hbN hN ?_
    rw [List.set_set]
    obtain ⟨q1,q2⟩:=Sort.heapSort_holds Sort.swo_ltInt e a b hab hbe
    obtain ⟨q3,q4⟩:=hfin _ q1 q2
    simp only [unfC (y9s1.eq_1 c),unfC (y9s2.eq_1 c),unfC (y9s3.eq_1 c),unfC (y9s4.eq_1 c),unfC (y9s5.eq_1 c),unfC (y9s6.eq_1 c),unfC (y9s7.eq_1 c),unfC (y9s20.eq_1 c),unfC (y9s21.eq_1 c),unfC (y9s22.eq_1 c),unfC (y9s23.eq_1 c),unfC (y9s24.eq_1 c),unfC (y9s25.eq_1 c),unfC (y9s26.eq_1 c),unfC (y9s27.eq_1 c),A_,simprocAttr,ne_eq]
    exact hK _ q3 q4
  have hlt0:((lim:Int)=0)=False:=eq_false (by omega)
  have loop2:∀(e2:Array Int),Sort.PermIn a b e e2→∀(a' b' lim':Nat) (wb' wp':Bool) (e':Array Int) (fr':Fr) (S':List (List AV)),keep (zm false [0,4,4,2,124]) fr'=[.row (.stk n) 0 N N,.s (.int .i64 (a':Nat)),.s (.int .i64 (b':Nat)),.s (.int .i64 (lim':Nat)),uu,uu,uu,uu,.s (.bool wb'),.s (.bool wp'),uu,uu,uu,uu,uu,uu,uu,uu,uu,uu,uu,uu,uu,uu,uu,uu,uu,uu,uu,uu,uu,uu,uu,uu,uu,uu,uu,uu,uu,uu,uu,uu,uu,uu,uu,uu,uu,uu,uu,uu,uu,uu,uu,uu,uu,uu,uu,uu,uu,uu,uu,uu,uu,uu,uu,uu,uu,uu,uu,uu,uu,uu,uu,uu,uu,uu,uu,uu,uu,uu,uu,uu,uu,uu,uu,uu,uu,uu,uu,uu,uu,uu,uu,uu,uu,uu,uu,uu,uu,uu,uu,uu,uu,uu,uu,uu,uu,uu,uu,uu,uu,uu,uu,uu,uu,uu,uu,uu,uu,uu,uu,uu,uu,uu,uu,uu,uu,uu,uu,uu,uu,uu,uu,uu]→S'.take S.length=(S.set n (flat iA e2)).set n (flat iA e')→e'.size=N→b' - a' < b - a→a≤a'→b'≤b→a'≤b'→lim'≤2305843009213693952→Sort.Below ltI a' b' e'→(∀R,Sort.PermIn a' b' e' R→Sort.SortedIn ltI a' b' R→Sort.PermIn a b e2 R∧Sort.SortedIn ltI a b R)→runLp C P false (zm false [0,4,4,2,124]) (y9s26 c) S.length [Item.blk 0] fr' ⟨S',H⟩ (fin S.length [] K):=by
    intro e2 hp a' b' lim' wb' wp' e' fr' S' k1 k2 k3 k4 k5 k6 k7 k8 k9 k10
    rw [List.set_set] at k2
    exact ih (a',b',lim',wb',wp',e') fr' S' H k4 ⟨k7,by dsimp only; omega,k3,k8,by dsimp only; omega,k9,fun R r1 r2=>by
      obtain ⟨q1,q2⟩:=k10 R r1 r2
      exact hfin R (Sort.permIn_trans _ _ _ _ _ hp q1) q2⟩ k1 k2 rfl
  have Sset2:∀z:Array Int,(S.set n (flat iA z))[n]? = some (flat iA z):=fun z=>sset hS
  have hlen:∀z:Array Int,S.length=(S.set n (flat iA z)).length:=fun z=>by simp
  have hwb1:IntKind.i64.wrap ((b:Int) - 1)=((b - 1:Nat):Int):=by rw [wrap_i64 (by omega) (by omega)]; omega
  have hwl1:IntKind.i64.wrap ((lim:Int) - 1)=((lim - 1:Nat):Int):=by rw [wrap_i64 (by omega) (by omega)]; omega
  have fin2:∀(e2:Array Int),Sort.PermIn a b e e2→e2.size=N∧b≤e2.size∧Sort.Below ltI a b e2:=fun e2 hp=>⟨hp.1.trans hes,by rw [hp.1]; exact hbe,hB.perm hbe hp⟩
  cases wb with
  | false =>
    simp only [unfC (y9s1.eq_1 c),unfC (y9s2.eq_1 c),unfC (y9s3.eq_1 c),unfC (y9s4.eq_1 c),unfC (y9s5.eq_1 c),unfC (y9s6.eq_1 c),unfC (y9s7.eq_1 c),unfC (y9s20.eq_1 c),unfC (y9s21.eq_1 c),unfC (y9s22.eq_1 c),unfC (y9s23.eq_1 c),unfC (y9s24.eq_1 c),unfC (y9s25.eq_1 c),unfC (y9s26.eq_1 c),unfC (y9s27.eq_1 c),A_,simprocAttr,ne_eq,hw0,hlt,hlt0]
    refine h2.at n e a b _ _ _ hSe hes (by omega) hbN hN ?_
    rw [List.set_set]
    have p1:=Sort.breakPatterns_holds e a b hab hbe
    generalize Sort.breakPatterns e a b=e1 at p1 ⊢
    obtain ⟨s1,b1,B1⟩:=fin2 e1 p1
    simp only [unfC (y9s1.eq_1 c),unfC (y9s2.eq_1 c),unfC (y9s3.eq_1 c),unfC (y9s4.eq_1 c),unfC (y9s5.eq_1 c),unfC (y9s6.eq_1 c),unfC (y9s7.eq_1 c),unfC (y9s20.eq_1 c),unfC (y9s21.eq_1 c),unfC (y9s22.eq_1 c),unfC (y9s23.eq_1 c),unfC (y9s24.eq_1 c),unfC (y9s25.eq_1 c),unfC (y9s26.eq_1 c),unfC (y9s27.eq_1 c),A_,simprocAttr,ne_eq,hwl1]
    refine h3.at n e1 a b _ _ _ (Sset2 e1) s1 (by omega) hbN hN ?_
    obtain ⟨u1,u2⟩:=Sort.choosePivot_holds ltI e1 a b (by omega)
    generalize Sort.choosePivot ltI e1 a b=cp at u1 u2 ⊢
    obtain ⟨piv,hint⟩:=cp
    dsimp only at u1 u2 ⊢
    cases hint with
    | unknown =>
      simp only [unfC (y9s1.eq_1 c),unfC (y9s2.eq_1 c),unfC (y9s3.eq_1 c),unfC (y9s4.eq_1 c),unfC (y9s5.eq_1 c),unfC (y9s6.eq_1 c),unfC (y9s7.eq_1 c),unfC (y9s20.eq_1 c),unfC (y9s21.eq_1 c),unfC (y9s22.eq_1 c),unfC (y9s23.eq_1 c),unfC (y9s24.eq_1 c),unfC (y9s25.eq_1 c),unfC (y9s26.eq_1 c),unfC (y9s27.eq_1 c),A_,simprocAttr,ne_eq,hI]
      exact y9s19_run hC P h6 h7 h8 h9 (Sset2 e1) (hlen e1) s1 u1 u2 hbN hN (by omega) (by omega) (by omega) B1 (loop2 e1 p1) _ _ _ _ _ _ _ _ _ _ _ _ _ _ _ _ _ _ _ _ _ _ _ _ _ _ _ _ _ _ _ _ _ _ _ _ _ _ _ _ _ _ _ _ _ _ _ _ _ _ _ _ _ _ _ _ _ _ _ _ _ _ _ _ _ _ _ _ _ _ _ _ _ _ _ _ _ _ _ _ _ _ _ _ _ _ _ _ _ _ _ _ _ _ _ _ _ _ _ _ _ _ _ _ _ _ _ _ _ _ _ _ _ _ _ _ _ _ _ _ _ _ _ _ _ _
    | increasing =>
      simp only [unfC (y9s1.eq_1 c),unfC (y9s2.eq_1 c),unfC (y9s3.eq_1 c),unfC (y9s4.eq_1 c),unfC (y9s5.eq_1 c),unfC (y9s6.eq_1 c),unfC (y9s7.eq_1 c),unfC (y9s20.eq_1 c),unfC (y9s21.eq_1 c),unfC (y9s22.eq_1 c),unfC (y9s23.eq_1 c),unfC (y9s24.eq_1 c),unfC (y9s25.eq_1 c),unfC (y9s26.eq_1 c),unfC (y9s27.eq_1 c),A_,simprocAttr,ne_eq,hI]
      exact y9s19_run hC P h6 h7 h8 h9 (Sset2 e1) (hlen e1) s1 u1 u2 hbN hN (by omega) (by omega) (by omega) B1 (loop2 e1 p1) _ _ _ _ _ _ _ _ _ _ _ _ _ _ _ _ _ _ _ _ _ _ _ _ _ _ _ _ _ _ _ _ _ _ _ _ _ _ _ _ _ _ _ _ _ _ _ _ _ _ _ _ _ _ _ _ _ _ _ _ _ _ _ _ _ _ _ _ _ _ _ _ _ _ _ _ _ _ _ _ _ _ _ _ _ _ _ _ _ _ _ _ _ _ _ _ _ _ _ _ _ _ _ _ _ _ _ _ _ _ _ _ _ _ _ _ _ _ _ _ _ _ _ _ _ _
    | decreasing =>
      have hwp:IntKind.i64.wrap ((piv:Int) - (a:Int))=((piv - a:Nat):Int):=by rw [wrap_i64 (by omega) (by omega)]; omega
      have hwp2:IntKind.i64.wrap (((b - 1:Nat):Int) - ((piv - a:Nat):Int))=((b - 1 - (piv - a):Nat):Int):=by rw [wrap_i64 (by omega) (by omega)]; omega
      simp only [unfC (y9s1.eq_1 c),unfC (y9s2.eq_1 c),unfC (y9s3.eq_1 c),unfC (y9s4.eq_1 c),unfC (y9s5.eq_1 c),unfC (y9s6.eq_1 c),unfC (y9s7.eq_1 c),unfC (y9s20.eq_1 c),unfC (y9s21.eq_1 c),unfC (y9s22.eq_1 c),unfC (y9s23.eq_1 c),unfC (y9s24.eq_1 c),unfC (y9s25.eq_1 c),unfC (y9s26.eq_1 c),unfC (y9s27.eq_1 c),A_,simprocAttr,ne_eq,hI]
      refine h4.at n e1 a b _ _ _ (Sset2 e1) s1 (by omega) hbN hN ?_
      rw [List.set_set]
      have p2:=Sort.reverseRange_holds e1 a b hab b1
      generalize Sort.reverseRange e1 a b=e2 at p2 ⊢
      have p3:=Sort.permIn_trans _ _ _ _ _ p1 p2
      obtain ⟨s2,b2,B2⟩:=fin2 e2 p3
      simp only [unfC (y9s1.eq_1 c),unfC (y9s2.eq_1 c),unfC (y9s3.eq_1 c),unfC (y9s4.eq_1 c),unfC (y9s5.eq_1 c),unfC (y9s6.eq_1 c),unfC (y9s7.eq_1 c),unfC (y9s20.eq_1 c),unfC (y9s21.eq_1 c),unfC (y9s22.eq_1 c),unfC (y9s23.eq_1 c),unfC (y9s24.eq_1 c),unfC (y9s25.eq_1 c),unfC (y9s26.eq_1 c),unfC (y9s27.eq_1 c),A_,simprocAttr,ne_eq,hwb1,hwp,hwp2]
      exact y9s19_run hC P h6 h7 h8 h9 (Sset2 e2) (hlen e2) s2 (by omega) (by omega) hbN hN (by omega) (by omega) (by omega) B2 (loop2 e2 p3) _ _ _ _ _ _ _ _ _ _ _ _ _ _ _ _ _ _ _ _ _ _ _ _ _ _ _ _ _ _ _ _ _ _ _ _ _ _ _ _ _ _ _ _ _ _ _ _ _ _ _ _ _ _ _ _ _ _ _ _ _ _ _ _ _ _ _ _ _ _ _ _ _ _ _ _ _ _ _ _ _ _ _ _ _ _ _ _ _ _ _ _ _ _ _ _ _ _ _ _ _ _ _ _ _ _ _ _ _ _ _ _ _ _ _ _ _ _ _ _ _ _ _ _ _ _
  | true =>
    simp only [unfC (y9s1.eq_1 c),unfC (y9s2.eq_1 c),unfC (y9s3.eq_1 c),unfC (y9s4.eq_1 c),unfC (y9s5.eq_1 c),unfC (y9s6.eq_1 c),unfC (y9s7.eq_1 c),unfC (y9s20.eq_1 c),unfC (y9s21.eq_1 c),unfC (y9s22.eq_1 c),unfC (y9s23.eq_1 c),unfC (y9s24.eq_1 c),unfC (y9s25.eq_1 c),unfC (y9s26.eq_1 c),unfC (y9s27.eq_1 c),A_,simprocAttr,ne_eq,hw0,hlt,hlt0]
    refine h3.at n e a b _ _ _ hSe hes (by omega) hbN hN ?_
    obtain ⟨u1,u2⟩:=Sort.choosePivot_holds ltI e a b (by omega)
    generalize Sort.choosePivot ltI e a b=cp at u1 u2 ⊢
    obtain ⟨piv,hint⟩:=cp
    dsimp only at u1 u2 ⊢
    have p0:=Sort.permIn_refl e a b
    obtain ⟨piv2,e1,p1,v1,v2,hst⟩:∃(piv2:Nat) (e1:Array Int),Sort.PermIn a b e e1∧a≤piv2∧piv2 < b∧True:=⟨piv,e,p0,u1,u2,trivial⟩
    clear hst v1 v2 p1 e1 piv2
    cases hint with
    | unknown =>
      cases wp <;>
      · simp only [unfC (y9s1.eq_1 c),unfC (y9s2.eq_1 c),unfC (y9s3.eq_1 c),unfC (y9s4.eq_1 c),unfC (y9s5.eq_1 c),unfC (y9s6.eq_1 c),unfC (y9s7.eq_1 c),unfC (y9s20.eq_1 c),unfC (y9s21.eq_1 c),unfC (y9s22.eq_1 c),unfC (y9s23.eq_1 c),unfC (y9s24.eq_1 c),unfC (y9s25.eq_1 c),unfC (y9s26.eq_1 c),unfC (y9s27.eq_1 c),A_,simprocAttr,ne_eq,hI]
        exact y9s19_run hC P h6 h7 h8 h9 hSe (hlen e) hes u1 u2 hbN hN (by omega) hlim (by omega) hB (loop2 e p0) _ _ _ _ _ _ _ _ _ _ _ _ _ _ _ _ _ _ _ _ _ _ _ _ _ _ _ _ _ _ _ _ _ _ _ _ _ _ _ _ _ _ _ _ _ _ _ _ _ _ _ _ _ _ _ _ _ _ _ _ _ _ _ _ _ _ _ _ _ _ _ _ _ _ _ _ _ _ _ _ _ _ _ _ _ _ _ _ _ _ _ _ _ _ _ _ _ _ _ _ _ _ _ _ _ _ _ _ _ _ _ _ _ _ _ _ _ _ _ _ _ _ _ _ _ _
    | increasing =>
      cases wp with
      | false =>
        simp only [unfC (y9s1.eq_1 c),unfC (y9s2.eq_1 c),unfC (y9s3.eq_1 c),unfC (y9s4.eq_1 c),unfC (y9s5.eq_1 c),unfC (y9s6.eq_1 c),unfC (y9s7.eq_1 c),unfC (y9s20.eq_1 c),unfC (y9s21.eq_1 c),unfC (y9s22.eq_1 c),unfC (y9s23.eq_1 c),unfC (y9s24.eq_1 c),unfC (y9s25.eq_1 c),unfC (y9s26.eq_1 c),unfC (y9s27.eq_1 c),A_,simprocAttr,ne_eq,hI]
        exact y9s19_run hC P h6 h7 h8 h9 hSe (hlen e) hes u1 u2 hbN hN (by omega) hlim (by omega) hB (loop2 e p0) _ _ _ _ _ _ _ _ _ _ _ _ _ _ _ _ _ _ _ _ _ _ _ _ _ _ _ _ _ _ _ _ _ _ _ _ _ _ _ _ _ _ _ _ _ _ _ _ _ _ _ _ _ _ _ _ _ _ _ _ _ _ _ _ _ _ _ _ _ _ _ _ _ _ _ _ _ _ _ _ _ _ _ _ _ _ _ _ _ _ _ _ _ _ _ _ _ _ _ _ _ _ _ _ _ _ _ _ _ _ _ _ _ _ _ _ _ _ _ _ _ _ _ _ _ _
      | true =>
        simp only [unfC (y9s1.eq_1 c),unfC (y9s2.eq_1 c),unfC (y9s3.eq_1 c),unfC (y9s4.eq_1 c),unfC (y9s5.eq_1 c),unfC (y9s6.eq_1 c),unfC (y9s7.eq_1 c),unfC (y9s20.eq_1 c),unfC (y9s21.eq_1 c),unfC (y9s22.eq_1 c),unfC (y9s23.eq_1 c),unfC (y9s24.eq_1 c),unfC (y9s25.eq_1 c),unfC (y9s26.eq_1 c),unfC (y9s27.eq_1 c),A_,simprocAttr,ne_eq,hI]
        refine h5.at n e a b _ _ _ hSe hes (by omega) hbN hN ?_
        rw [List.set_set]
        obtain ⟨q1,q2⟩:=Sort.partialInsertionSort_holds Sort.swo_ltInt e a b (by omega) hbe hB
        have q1':Sort.PermIn a b e (Sort.partialInsertionSort ltI e a b).1:=q1
        have q2':(Sort.partialInsertionSort ltI e a b).2=true→Sort.SortedIn ltI a b (Sort.partialInsertionSort ltI e a b).1:=q2
        clear q1 q2
        generalize Sort.partialInsertionSort ltI e a b=pr at q1' q2' ⊢
        obtain ⟨e3,ok⟩:=pr
        dsimp only at q1' q2' ⊢
        cases ok with
        | true =>
          obtain ⟨q3,q4⟩:=hfin _ q1' (q2' rfl)
          simp only [unfC (y9s1.eq_1 c),unfC (y9s2.eq_1 c),unfC (y9s3.eq_1 c),unfC (y9s4.eq_1 c),unfC (y9s5.eq_1 c),unfC (y9s6.eq_1 c),unfC (y9s7.eq_1 c),unfC (y9s20.eq_1 c),unfC (y9s21.eq_1 c),unfC (y9s22.eq_1 c),unfC (y9s23.eq_1 c),unfC (y9s24.eq_1 c),unfC (y9s25.eq_1 c),unfC (y9s26.eq_1 c),unfC (y9s27.eq_1 c),A_,simprocAttr,ne_eq]
          exact hK _ q3 q4
        | false =>
          obtain ⟨s3,b3,B3⟩:=fin2 e3 q1'
          simp only [unfC (y9s1.eq_1 c),unfC (y9s2.eq_1 c),unfC (y9s3.eq_1 c),unfC (y9s4.eq_1 c),unfC (y9s5.eq_1 c),unfC (y9s6.eq_1 c),unfC (y9s7.eq_1 c),unfC (y9s20.eq_1 c),unfC (y9s21.eq_1 c),unfC (y9s22.eq_1 c),unfC (y9s23.eq_1 c),unfC (y9s24.eq_1 c),unfC (y9s25.eq_1 c),unfC (y9s26.eq_1 c),unfC (y9s27.eq_1 c),A_,simprocAttr,ne_eq]
          exact y9s19_run hC P h6 h7 h8 h9 (Sset2 e3) (hlen e3) s3 u1 u2 hbN hN (by omega) hlim (by omega) B3 (loop2 e3 q1') _ _ _ _ _ _ _ _ _ _ _ _ _ _ _ _ _ _ _ _ _ _ _ _ _ _ _ _ _ _ _ _ _ _ _ _ _ _ _ _ _ _ _ _ _ _ _ _ _ _ _ _ _ _ _ _ _ _ _ _ _ _ _ _ _ _ _ _ _ _ _ _ _ _ _ _ _ _ _ _ _ _ _ _ _ _ _ _ _ _ _ _ _ _ _ _ _ _ _ _ _ _ _ _ _ _ _ _ _ _ _ _ _ _ _ _ _ _ _ _ _ _ _ _ _ _
    | decreasing =>
      have hwp:IntKind.i64.wrap ((piv:Int) - (a:Int))=((piv - a:Nat):Int):=by rw [wrap_i64 (by omega) (by omega)]; omega
      have hwp2:IntKind.i64.wrap (((b - 1:Nat):Int) - ((piv - a:Nat):Int))=((b - 1 - (piv - a):Nat):Int):=by rw [wrap_i64 (by omega) (by omega)]; omega
      simp only [unfC (y9s1.eq_1 c),unfC (y9s2.eq_1 c),unfC (y9s3.eq_1 c),unfC (y9s4.eq_1 c),unfC (y9s5.eq_1 c),unfC (y9s6.eq_1 c),unfC (y9s7.eq_1 c),unfC (y9s20.eq_1 c),unfC (y9s21.eq_1 c),unfC (y9s22.eq_1 c),unfC (y9s23.eq_1 c),unfC (y9s24.eq_1 c),unfC (y9s25.eq_1 c),unfC (y9s26.eq_1 c),unfC (y9s27.eq_1 c),A_,simprocAttr,ne_eq,hI]
      refine h4.at n e a b _ _ _ hSe hes (by omega) hbN hN ?_
      rw [List.set_set]
      have p2:=Sort.reverseRange_holds e a b hab hbe
      generalize Sort.reverseRange e a b=e2 at p2 ⊢
      obtain ⟨s2,b2,B2⟩:=fin2 e2 p2
      cases wp with
      | false =>
        simp only [unfC (y9s1.eq_1 c),unfC (y9s2.eq_1 c),unfC (y9s3.eq_1 c),unfC (y9s4.eq_1 c),unfC (y9s5.eq_1 c),unfC (y9s6.eq_1 c),unfC (y9s7.eq_1 c),unfC (y9s20.eq_1 c),unfC (y9s21.eq_1 c),unfC (y9s22.eq_1 c),unfC (y9s23.eq_1 c),unfC (y9s24.eq_1 c),unfC (y9s25.eq_1 c),unfC (y9s26.eq_1 c),unfC (y9s27.eq_1 c),A_,simprocAttr,ne_eq,hwb1,hwp,hwp2]
        exact y9s19_run hC P h6 h7 h8 h9 (Sset2 e2) (hlen e2) s2 (by omega) (by omega) hbN hN (by omega) hlim (by omega) B2 (loop2 e2 p2) _ _ _ _ _ _ _ _ _ _ _ _ _ _ _ _ _ _ _ _ _ _ _ _ _ _ _ _ _ _ _ _ _ _ _ _ _ _ _ _ _ _ _ _ _ _ _ _ _ _ _ _ _ _ _ _ _ _ _ _ _ _ _ _ _ _ _ _ _ _ _ _ _ _ _ _ _ _ _ _ _ _ _ _ _ _ _ _ _ _ _ _ _ _ _ _ _ _ _ _ _ _ _ _ _ _ _ _ _ _ _ _ _ _ _ _ _ _ _ _ _ _ _ _ _ _
      | true =>
        simp only [unfC (y9s1.eq_1 c),unfC (y9s2.eq_1 c),unfC (y9s3.eq_1 c),unfC (y9s4.eq_1 c),unfC (y9s5.eq_1 c),unfC (y9s6.eq_1 c),unfC (y9s7.eq_1 c),unfC (y9s20.eq_1 c),unfC (y9s21.eq_1 c),unfC (y9s22.eq_1 c),unfC (y9s23.eq_1 c),unfC (y9s24.eq_1 c),unfC (y9s25.eq_1 c),unfC (y9s26.eq_1 c),unfC (y9s27.eq_1 c),A_,simprocAttr,ne_eq,hwb1,hwp,hwp2]
        refine h5.at n e2 a b _ _ _ (Sset2 e2) s2 (by omega) hbN hN ?_
        rw [List.set_set]
        obtain ⟨q1,q2⟩:=Sort.partialInsertionSort_holds Sort.swo_ltInt e2 a b (by omega) b2 B2
        have q1':Sort.PermIn a b e2 (Sort.partialInsertionSort ltI e2 a b).1:=q1
        have q2':(Sort.partialInsertionSort ltI e2 a b).2=true→Sort.SortedIn ltI a b (Sort.partialInsertionSort ltI e2 a b).1:=q2
        clear q1 q2
        generalize Sort.partialInsertionSort ltI e2 a b=pr at q1' q2' ⊢
        obtain ⟨e3,ok⟩:=pr
        dsimp only at q1' q2' ⊢
        have q1':=Sort.permIn_trans _ _ _ _ _ p2 q1'
        cases ok with
        | true =>
          obtain ⟨q3,q4⟩:=hfin _ q1' (q2' rfl)
          simp only [unfC (y9s1.eq_1 c),unfC (y9s2.eq_1 c),unfC (y9s3.eq_1 c),unfC (y9s4.eq_1 c),unfC (y9s5.eq_1 c),unfC (y9s6.eq_1 c),unfC (y9s7.eq_1 c),unfC (y9s20.eq_1 c),unfC (y9s21.eq_1 c),unfC (y9s22.eq_1 c),unfC (y9s23.eq_1 c),unfC (y9s24.eq_1 c),unfC (y9s25.eq_1 c),unfC (y9s26.eq_1 c),unfC (y9s27.eq_1 c),A_,simprocAttr,ne_eq]
          exact hK _ q3 q4
        | false =>
          obtain ⟨s3,b3,B3⟩:=fin2 e3 q1'
          simp only [unfC (y9s1.eq_1 c),unfC (y9s2.eq_1 c),unfC (y9s3.eq_1 c),unfC (y9s4.eq_1 c),unfC (y9s5.eq_1 c),unfC (y9s6.eq_1 c),unfC (y9s7.eq_1 c),unfC (y9s20.eq_1 c),unfC (y9s21.eq_1 c),unfC (y9s22.eq_1 c),unfC (y9s23.eq_1 c),unfC (y9s24.eq_1 c),unfC (y9s25.eq_1 c),unfC (y9s26.eq_1 c),unfC (y9s27.eq_1 c),A_,simprocAttr,ne_eq]
          exact y9s19_run hC P h6 h7 h8 h9 (Sset2 e3) (hlen e3) s3 (by omega) (by omega) hbN hN (by omega) hlim (by omega) B3 (loop2 e3 q1') _ _ _ _ _ _ _ _ _ _ _ _ _ _ _ _ _ _ _ _ _ _ _ _ _ _ _ _ _ _ _ _ _ _ _ _ _ _ _ _ _ _ _ _ _ _ _ _ _ _ _ _ _ _ _ _ _ _ _ _ _ _ _ _ _ _ _ _ _ _ _ _ _ _ _ _ _ _ _ _ _ _ _ _ _ _ _ _ _ _ _ _ _ _ _ _ _ _ _ _ _ _ _ _ _ _ _ _ _ _ _ _ _ _ _ _ _ _ _ _ _ _ _ _ _ _
end Go.AM
namespace Go.AM
open Go
set_option maxRecDepth 20000
def y10a1 (c:Nat→FuncId):LCode:=(.sq [(zs 5 (.mv true (.t 0))),(zs 6 (.mv false (.t 2))),(zs 7 (.mv false (.t 2))),(zs 8 (.conv (.int .u64) (.t 7))),(zs 9 (.call (.f (c 0)) [(.t 8)])),(zs 10 (.call (.f (c 1)) [(.t 5),(zi 0),(.t 6),(.t 9)]))])
def U_slices_Sort_int (c:Nat→FuncId):=PLift.up (@unfC _ _ (y10a1.eq_1 c))
def C_slices_Sort_int (c:Nat→FuncId):LFn:=⟨11,[],(.seq (.sq [(zs 3 (.mv false (.t 0))),(zs 4 (.len .sl (.t 3))),(zs 2 (.mv true (.t 4)))]) (y10a1 c))⟩
def y10i1:LCode:=(.sq [(zs 15 (.mv false (.t 5))),(zs 16 (.bin .add .sc (.t 15) (zi 1))),(zs 5 (.mv true (.t 16)))])
def y10i2:LCode:=(.seq (.block 1 (.seq (.tree (.rd (zs 17 (.mv false (.t 0))) 0 false (.rd (zs 18 (.mv false (.t 5))) 1 false (.rd (zs 19 (.ixa (.sl 1) (.t 17) (.t 18))) 2 false (.rd (zs 20 (.load1 false (.t 19))) 3 false (.rd (zs 21 (.mv false (.t 1))) 4 false (.rd (zs 22 (.mv false (.t 5))) 5 false (.rd (zs 23 (.ixa (.sl 1) (.t 21) (.t 22))) 6 false (.rd (zs 24 (.load1 false (.t 23))) 7 false (.rd (zs 25 (.bin .neq .sc (.t 20) (.t 24))) 8 false .done)))))))))) (.cond (.t 25) (.seq (.sq [(zs 4 (.mv true zF))]) .ret) .skip))) y10i1)
def y10i3:LCode:=(.seq (.seq (.sq [(zs 11 (.mv false (.t 5))),(zs 12 (.mv false (.t 0))),(zs 13 (.len .sl (.t 12))),(zs 14 (.bin .lss .sc (.t 11) (.t 13)))]) (.cond (.t 14) .skip (.exit 0))) y10i2)
def y10i4:LCode:=(.block 0 (.loop (zm false [0,2,3,1,20]) y10i3))
def y10i5:LCode:=(.seq (.seq (.sq [(zs 5 (.mv true (zi 0)))]) y10i4) (.seq (.sq [(zs 4 (.mv true zT))]) .ret))
def y10i6:LCode:=(.seq (.seq (.sq [(zs 6 (.mv false (.t 0))),(zs 7 (.len .sl (.t 6))),(zs 8 (.mv false (.t 1))),(zs 9 (.len .sl (.t 8))),(zs 10 (.bin .neq .sc (.t 7) (.t 9)))]) (.cond (.t 10) (.seq (.sq [(zs 4 (.mv true zF))]) .ret) .skip)) y10i5)
def U_hourglasslaw17_same:=PLift.up (zc (zc (@unfC _ _ (y10i1.eq_1)) (zc (@unfC _ _ (y10i2.eq_1)) (@unfC _ _ (y10i3.eq_1)))) (zc (@unfC _ _ (y10i4.eq_1)) (zc (@unfC _ _ (y10i5.eq_1)) (@unfC _ _ (y10i6.eq_1)))))
def C_hourglasslaw17_same:LFn:=⟨26,[.t 4],(.seq (.sq [(zs 4 (.mv true zF))]) y10i6)⟩
end Go.AM
namespace Go.AM
open Go
open AV renaming undef → uu
set_option maxRecDepth 20000
def PdqN (C:CallW) (f:FuncId):Prop:=∀S H (K:AV→St→Prop),K (.tup []) ⟨S,H⟩→C (.fn f) [.s .nilS,.s (.int .i64 (0:Nat)),.s (.int .i64 (0:Nat)),.s (.int .i64 (0:Nat))] ⟨S,H⟩ K
def SrtN (C:CallW) (f:FuncId):Prop:=∀S H (K:AV→St→Prop),K (.tup []) ⟨S,H⟩→C (.fn f) [.s .nilS,.s (.int .i64 (0:Nat)),.s (.int .i64 (0:Nat))] ⟨S,H⟩ K
def OneN (C:CallW) (f:FuncId) (r:AV):Prop:=∀S H (K:AV→St→Prop),K r ⟨S,H⟩→C (.fn f) [.s .nilS] ⟨S,H⟩ K
set_option maxHeartbeats 4000000 in
theorem insertionSort_nil {C:CallW} (hC:LeC C C) (P:Program) {c:Nat→FuncId}:∀S H (K:AV→St→Prop),K (.tup []) ⟨S,H⟩→runL C P (C_slices_insertionSortOrdered_int64 c) [.s .nilS,.s (.int .i64 (0:Nat)),.s (.int .i64 (0:Nat))] ⟨S,H⟩ K:=by
  intro S H K hK
  have hw0:IntKind.i64.wrap (((0:Nat):Int) + 1)=1:=rfl
  simp only [C_slices_insertionSortOrdered_int64,A_,simprocAttr,ne_eq,(U_slices_insertionSortOrdered_int64 _).1,hw0]
  refine loop_rule hC (α:=Unit) (fun x=>0) (fun x=>[.s .nilS,.s (.int .i64 (0:Nat)),.s (.int .i64 (0:Nat)),uu,uu,uu,.s (.int .i64 1),uu,uu,uu,uu,uu,uu,uu,uu,uu,uu,uu,uu,uu,uu,uu,uu,uu,uu,uu,uu,uu,uu,uu,uu,uu,uu,uu,uu,uu,uu,uu,uu,uu,uu,uu,uu,uu,uu,uu,uu,uu,uu]) (fun x=>S) (fun _=>H) (fun x=>True) () trivial (by simp [keep,zm]) (by rw [List.take_of_length_le (Nat.le_refl _)]) rfl (fun x _=>by simp [AV.under,AV.under.go]) ?_
  rintro x hx ih
  have hlt:((1:Int) < ((0:Nat):Int))=False:=eq_false (by omega)
  have hlt2:((1:Int) < 0)=False:=eq_false (by omega)
  simp only [C_slices_insertionSortOrdered_int64,A_,simprocAttr,ne_eq,(U_slices_insertionSortOrdered_int64 _).1,hlt,hlt2]
  exact hK
set_option maxHeartbeats 4000000 in
theorem pdqsort_nil {C:CallW} (hC:LeC C C) (P:Program) {c:Nat→FuncId} (h0:SrtN C (c 0)):∀S H (K:AV→St→Prop),K (.tup []) ⟨S,H⟩→runL C P (C_slices_pdqsortOrdered_int64 c) [.s .nilS,.s (.int .i64 (0:Nat)),.s (.int .i64 (0:Nat)),.s (.int .i64 (0:Nat))] ⟨S,H⟩ K:=by
  intro S H K hK
  simp only [C_slices_pdqsortOrdered_int64,A_,simprocAttr,ne_eq,(U_slices_pdqsortOrdered_int64 _).1]
  refine loop_rule hC (α:=Unit) (fun x=>0) (fun x=>[.s .nilS,.s (.int .i64 (0:Nat)),.s (.int .i64 (0:Nat)),.s (.int .i64 (0:Nat)),uu,uu,uu,uu,.s (.bool true),.s (.bool true),uu,uu,uu,uu,uu,uu,uu,uu,uu,uu,uu,uu,uu,uu,uu,uu,uu,uu,uu,uu,uu,uu,uu,uu,uu,uu,uu,uu,uu,uu,uu,uu,uu,uu,uu,uu,uu,uu,uu,uu,uu,uu,uu,uu,uu,uu,uu,uu,uu,uu,uu,uu,uu,uu,uu,uu,uu,uu,uu,uu,uu,uu,uu,uu,uu,uu,uu,uu,uu,uu,uu,uu,uu,uu,uu,uu,uu,uu,uu,uu,uu,uu,uu,uu,uu,uu,uu,uu,uu,uu,uu,uu,uu,uu,uu,uu,uu,uu,uu,uu,uu,uu,uu,uu,uu,uu,uu,uu,uu,uu,uu,uu,uu,uu,uu,uu,uu,uu,uu,uu,uu,uu,uu,uu]) (fun x=>S) (fun _=>H) (fun x=>True) () trivial (by simp [keep,zm]) (by rw [List.take_of_length_le (Nat.le_refl _)]) rfl (fun x _=>by simp [AV.under,AV.under.go]) ?_
  rintro x hx ih
  have hw:IntKind.i64.wrap (((0:Nat):Int) - ((0:Nat):Int))=0:=rfl
  have hlt:((0:Int)≤12)=True:=eq_true (by omega)
  simp only [C_slices_pdqsortOrdered_int64,A_,simprocAttr,ne_eq,(U_slices_pdqsortOrdered_int64 _).1,hw,hlt]
  refine h0 _ _ _ ?_
  simp only [C_slices_pdqsortOrdered_int64,A_,simprocAttr,ne_eq,(U_slices_pdqsortOrdered_int64 _).1]
  exact hK
def SortIS (C:CallW) (f:FuncId):Prop:=∀(n:Nat) (d:Array Int) (S:List (List AV)) (H:List HObj) (K:AV→St→Prop),S[n]? = some (flat iA d)→d.size≤2305843009213693952→(∀R,Sort.PermIn 0 d.size d R→Sort.SortedIn ltI 0 d.size R→K (.tup []) ⟨S.set n (flat iA R),H⟩)→C (.fn f) [.row (.stk n) 0 d.size d.size] ⟨S,H⟩ K
theorem Sort_int_spec {C:CallW} (P:Program) {c:Nat→FuncId} (h0:LenS C (c 0)) (h1:∀m,PdqS C (c 1) m):∀(n:Nat) (d:Array Int) (S:List (List AV)) (H:List HObj) (K:AV→St→Prop),S[n]? = some (flat iA d)→d.size≤2305843009213693952→(∀R,Sort.PermIn 0 d.size d R→Sort.SortedIn ltI 0 d.size R→K (.tup []) ⟨S.set n (flat iA R),H⟩)→runL C P (C_slices_Sort_int c) [.row (.stk n) 0 d.size d.size] ⟨S,H⟩ K:=by
  intro n d S H K hS hd hK
  have hc:IntKind.u64.wrap (d.size:Int)=(d.size:Int):=wu64 (by omega)
  simp only [C_slices_Sort_int,A_,simprocAttr,ne_eq,(U_slices_Sort_int _).1,convL,hc]
  refine h0 d.size (by omega) _ _ _ ?_
  have hb:=bitsLen_le (x:=d.size) (k:=62) (by omega)
  simp only [A_,simprocAttr,ne_eq,(U_slices_Sort_int _).1]
  refine h1 (d.size + 1) n d 0 d.size (Sort.bitsLen d.size) _ _ _ hS (Nat.zero_le _) (Nat.le_refl _) hd (by omega) (by omega) (.inl rfl) fun R h2 h3 => ?_
  simp only [A_,simprocAttr,ne_eq,(U_slices_Sort_int _).1]
  exact hK R h2 h3
theorem Sort_int_nil {C:CallW} (P:Program) {c:Nat→FuncId} (h0:LenS C (c 0)) (h1:PdqN C (c 1)):∀S H (K:AV→St→Prop),K (.tup []) ⟨S,H⟩→runL C P (C_slices_Sort_int c) [.s .nilS] ⟨S,H⟩ K:=by
  intro S H K hK
  have hc:IntKind.u64.wrap (0:Int)=((0:Nat):Int):=rfl
  simp only [C_slices_Sort_int,A_,simprocAttr,ne_eq,(U_slices_Sort_int _).1,convL,hc]
  refine h0 0 (by omega) _ _ _ ?_
  simp only [A_,simprocAttr,ne_eq,(U_slices_Sort_int _).1]
  refine h1 _ _ _ ?_
  simp only [A_,simprocAttr,ne_eq,(U_slices_Sort_int _).1]
  exact hK
theorem take_at {d:Array Int} {m:Nat} (h:m < d.size):d.toList.take (m + 1)=d.toList.take m ++ [d[m]!]:=by
  have h2:m < d.toList.length:=by simpa using h
  rw [List.take_succ_eq_append_getElem h2,get_bang h]
theorem flat_iA (d:Array Int):flat iA d=d.toList.map iA:=by
  unfold flat
  generalize d.toList=l
  induction l with
  | nil=>rfl
  | cons x l ih=>rw [List.flatMap_cons,ih]; rfl
theorem slr_lo {r:Ref} {N k:Nat} {kk:IntKind} (h:k < N):sliceL (.sl 1) (.row r 0 N N) (some (.s (.int kk (k:Int)))) none none=some (.row r k (N - k) (N - k)):=by
  have h0:(0:Int)≤k:=by omega
  have h1:k≤N:=by omega
  simp [sliceL,bound,h0,h1,h]
theorem clr_i {S:List (List AV)} {H:List HObj} {n k N:Nat} {e:Array Int} {et:ET} (hz:et.z = .s (.int .i64 0)) (hS:S[n]? = some (flat iA e)) (he:e.size=N) (hk:k < N):clearL et (.row (.stk n) k (N - k) (N - k)) ⟨S,H⟩=some ⟨S.set n (flat iA (e.toList.take k ++ List.replicate (N - k) 0).toArray),H⟩:=by
  have hf:(List.replicate (N - k) (AV.s (.int .i64 0)).cells).flatten=List.replicate (N - k) (AV.s (.int .i64 0)):=by
    show (List.replicate (N - k) [AV.s (.int .i64 0)]).flatten=_
    simp
  have hl:k + (List.replicate (N - k) (AV.s (.int .i64 0))).length≤(flat iA e).length:=by rw [flat_length iA_EK,List.length_replicate]; omega
  have hu:∀m j,AV.under.go m (List.replicate j (AV.s (.int .i64 0)))=true:=by
    intro m j
    induction j with
    | zero=>rfl
    | succ j ih=>exact ih
  simp only [clearL,hz,hf,writeCells,boxOf_stk,hS,Option.bind_some,mayHold]
  rw [if_pos (by rw [Bool.and_eq_true]; exact ⟨decide_eq_true hl,hu _ _⟩)]
  have hsp:splice (flat iA e) k (List.replicate (N - k) (AV.s (.int .i64 0)))=flat iA (e.toList.take k ++ List.replicate (N - k) 0).toArray:=by
    have hel:e.toList.length=N:=by simpa using he
    have hd:∀j,N≤j→(flat iA e).drop j=[]:=fun j hj=>List.drop_of_length_le (by rw [flat_length iA_EK]; omega)
    rw [flat_iA,flat_iA]
    have hd2:(e.toList.map iA).drop N=[]:=List.drop_of_length_le (by simp; omega)
    unfold splice
    split
    · rename_i v hv
      have h1:N - k=1:=by have:=congrArg List.length hv; simpa using this
      rw [h1] at hv
      cases hv
      rw [List.set_eq_take_append_cons_drop,if_pos (by simp; omega),h1,show k + 1=N by omega,hd2]
      simp [List.map_take,iA]
    · simp only [List.length_replicate]
      rw [show k + (N - k)=N by omega,hd2]
      simp [List.map_take,iA]
  rw [hsp]
  rfl
theorem freeze_i {e:ET} {S:List (List AV)} {H:List HObj} {n k N:Nat} {d:Array Int} (h1:e.c=1) (h2:e.ag=false) (hS:S[n]? = some (flat iA d)) (hk:k≤d.size):freezeL e (.row (.stk n) 0 k N) ⟨S,H⟩=some (.list .sh 1 ((d.toList.take k).map iA),⟨S.set n [],H⟩):=by
  have hl:0 + k≤(flat iA d).length:=by rw [flat_length iA_EK]; omega
  have hlook:∀l:List Int,(l.map iA).map AV.look=l.map iA:=by
    intro l; induction l with
    | nil=>rfl
    | cons x l ih=>rw [List.map_cons,List.map_cons,ih]; rfl
  have hcell:∀l:List Int,(l.map iA).all AV.isCell=true:=by
    intro l; induction l with
    | nil=>rfl
    | cons x l ih=>rw [List.map_cons,List.all_cons,ih]; rfl
  have hu:∀l:List Int,underL 0 (l.map iA)=true:=by
    intro l; induction l with
    | nil=>rfl
    | cons x l ih=>exact ih
  have hgr:∀l:List Int,groupL e l.length (l.map iA)=l.map iA:=by
    intro l; induction l with
    | nil=>rfl
    | cons x l ih=>rw [List.length_cons,groupL,h1]; simp only [List.map_cons,List.take_succ_cons,List.take_zero,List.drop_succ_cons,List.drop_zero,ih]; simp [packL,h2,iA]
  have hlen:(d.toList.take k).length=k:=by simp; omega
  have hg2:=hgr (d.toList.take k)
  rw [hlen] at hg2
  unfold freezeL
  simp only [h1,Nat.mul_one,readCells,boxOf_stk,hS,Option.bind_some]
  rw [if_pos ⟨hl,.inr (by rw [List.drop_zero,flat_iA,←List.map_take,hlook]; exact hcell _)⟩]
  simp only [Option.bind_some,List.drop_zero,flat_iA,←List.map_take,hlook,hu,hg2]
  simp
end Go.AM
namespace Go.AM
open Go
set_option maxRecDepth 20000
def y11h1:LCode:=(.seq (.sq [(zs 10 (.mv false (.t 0))),(zs 11 (.mv false (.t 3))),(zs 12 (.call (.t 10) [(.t 11)])),(zs 13 (.un .not (.t 12)))]) (.cond (.t 13) .ret .skip))
def y11h2:LCode:=(.block 1 (.seq (.sq [(zs 8 (.ent (.t 5))),(zs 9 (.ext (.t 8) 0)),(zs 3 (.mv true (.t 9)))]) y11h1))
def y11h3:LCode:=(.seq (.sq [(zs 6 (.nxt (.t 5))),(zs 7 (.ext (.t 6) 0))]) (.seq (.cond (.t 7) .skip (.exit 0)) y11h2))
def y11h4:LCode:=(.block 0 (.loop (zm false [0,1,4,1,8]) y11h3))
def U_maps_Keys_Entry_1:=PLift.up (zc (zc (@unfC _ _ (y11h1.eq_1)) (@unfC _ _ (y11h2.eq_1))) (zc (@unfC _ _ (y11h3.eq_1)) (@unfC _ _ (y11h4.eq_1))))
def C_maps_Keys_Entry_1:LFn:=⟨14,[],(.seq (.sq [(zs 4 (.load1 false (.t 1))),(zs 5 (.rng (.t 4)))]) y11h4)⟩
def C_maps_Keys_Entry (c:Nat→FuncId):LFn:=⟨4,[.t 2],(.seq (.sq [(zs 1 (.box false true (.t 0))),(zs 2 (.mv true (.c .nilF)))]) (.seq (.sq [(zs 3 (.mkfn (c 0) [] [(.t 1)])),(zs 2 (.mv true (.t 3)))]) .ret))⟩
def C_slices_AppendSeq_int64_a0:LFn:=⟨0,[],(.sq [(zs 5 (.mv true (.t 7)))])⟩
def C_slices_AppendSeq_int64_b0:LFn:=⟨0,[],(.block 1 (.sq [(zs 8 (.load1 true (.t 2))),(zs 9 (.mv false (.t 5))),(zs 10 (.bsl ⟨1,false,8,(.s (.int .i64 0))⟩ 1 [(0,(.t 9))])),(zs 11 (.app ⟨1,false,8,(.s (.int .i64 0))⟩ false (.t 8) (.t 10))),(zn (.stu (.t 2) (.t 11)))]))⟩
def y11i1 (c:Nat→FuncId) (as1 bd1:Code):LCode:=(.seq (.seq (.sq [(zs 6 (.mv false (.t 1)))]) (.block 0 (.rfun (.t 6) (c 0) #[7] as1 bd1))) (.seq (.sq [(zs 12 (.load1 true (.t 2))),(zs 4 (.mv true (.t 12)))]) .ret))
def U_slices_AppendSeq_int64 (c:Nat→FuncId) (as1 bd1:Code):=PLift.up (@unfC _ _ (y11i1.eq_1 c as1 bd1))
def C_slices_AppendSeq_int64 (c:Nat→FuncId) (as1 bd1:Code):LFn:=⟨13,[.t 4],(.seq (.sq [(zs 2 (.box true true (.t 0))),(zs 4 (.mv true (.c .nilS)))]) (y11i1 c as1 bd1))⟩
def y11j1 (c:Nat→FuncId):LCode:=(.seq (.sq [(zs 3 (.mv false (.t 0))),(zs 4 (.call (.f (c 0)) [(.c .nilS),(.t 3)])),(zs 2 (.mv true (.t 4)))]) .ret)
def U_slices_Collect_int64 (c:Nat→FuncId):=PLift.up (@unfC _ _ (y11j1.eq_1 c))
def C_slices_Collect_int64 (c:Nat→FuncId):LFn:=⟨5,[.t 2],(.seq (.sq [(zs 2 (.mv true (.c .nilS)))]) (y11j1 c))⟩
def y11k1 (c:Nat→FuncId):LCode:=(.seq (.sq [(zs 6 (.thaw 3)),(zs 7 (.call (.f (c 1)) [(.t 6)]))]) (.seq (.sq [(zs 8 (.frz ⟨1,false,8,(.s (.int .i64 0))⟩ (.t 3))),(zs 2 (.mv true (.t 8)))]) .ret))
def y11k2 (c:Nat→FuncId):LCode:=(.seq (.sq [(zs 4 (.mv false (.t 0))),(zs 5 (.call (.f (c 0)) [(.t 4)])),(zs 3 (.mv true (.t 5)))]) (y11k1 c))
def U_slices_Sorted_int64 (c:Nat→FuncId):=PLift.up (zc (@unfC _ _ (y11k1.eq_1 c)) (@unfC _ _ (y11k2.eq_1 c)))
def C_slices_Sorted_int64 (c:Nat→FuncId):LFn:=⟨9,[.t 2],(.seq (.sq [(zs 2 (.mv true (.c .nilS)))]) (y11k2 c))⟩
def y11q1:LCode:=(.seq (.sq [(zs 3 (.mv false (.t 0))),(zs 4 (.build [(.s (.int .i64 0)),(.s (.int .u8 0))] [(0,1,(.t 3))])),(zn (.store 2 (.t 2) (.t 4)))]) .ret)
def U_hourglasslaw13_at:=PLift.up (@unfC _ _ (y11q1.eq_1))
def C_hourglasslaw13_at:LFn:=⟨5,[.many 2 2],(.seq (.sq [(zs 2 (.alloc false [(.s (.int .i64 0)),(.s (.int .u8 0))]))]) y11q1)⟩
end Go.AM
namespace Go.AM
open Go
set_option maxRecDepth 20000
def goodK (k:Key):Bool:=decide (textOf k≠[]) && decide (padK (textOf k)=k)
def goodL:Bool→List UInt8→Bool
  | _,[]=>true
  | e,x :: l=>if x=0 then goodL true l else if e then false else goodL false l
def goodR (k:Key):Bool:=goodL false k.b && decide (k.b[0]'(by rw [k.h]; omega)≠0)
theorem wrap_succ {i:Nat} (h:i < 4611686018427387904):IntKind.i64.wrap ((i:Int) + 1)=((i + 1:Nat):Int):=by rw [wrap_i64 (by omega) (by omega)]; rfl
end Go.AM
namespace Go.AM
open Go
end Go.AM
namespace Go.AM
open Go
set_option maxRecDepth 20000
end Go.AM
namespace Go.AM
open Go
set_option maxRecDepth 20000
end Go.AM
namespace Go.AM
open Go
set_option maxRecDepth 20000
def cmpK (a b:Key):Int:=Lib.compareBytes a.b b.b
def withinK (k a b:Key):Bool:=decide (0≤cmpK k a) && (decide (b=key0) || decide (cmpK k b < 0))
end Go.AM
namespace Go.AM
open Go
set_option maxRecDepth 20000
def cntK (k:Key):List Key→Nat
  | []=>0
  | p :: l=>(if cmpK p k≤0 then 1 else 0) + cntK k l
end Go.AM
namespace Go.AM
open Go
set_option maxRecDepth 20000
end Go.AM
namespace Go.AM
open Go
set_option maxRecDepth 20000
end Go.AM
namespace Go.AM
open Go
set_option maxRecDepth 20000
def aboveK (l:List Key) (a:Key) (i:Nat):Bool:=match l[i]? with
  | some p=>decide (0 < cmpK p a)
  | none=>true
def belowK (l:List Key) (b:Key) (i:Nat):Bool:=decide (i=0) || decide (b=key0) || (match l[i - 1]? with
  | some p=>decide (cmpK p b < 0)
  | none=>true)
def covUp (l:List Key) (a b:Key) (n:Nat):List Nat:=(List.range n).filter fun i=>aboveK l a i && belowK l b i
def coverK (l:List Key) (a b:Key):List Nat:=if b≠key0∧cmpK b a≤0 then [] else covUp l a b (l.length + 1)
end Go.AM
namespace Go.AM
open Go
set_option maxRecDepth 20000
def Steps (c:List Nat):Prop:=∀i,0 < i→(h:i < c.length)→c[i]=c[i - 1] + 1
structure WholeP (pts:List Key) (a b fr to:Key):Prop where
  good:∀k,goodR k=true→goodK k=true
  lt:cntK a pts≤pts.length
  mono:cmpK a b≤0→cntK a pts≤cntK b pts
  cons:Steps (coverK pts fr to)
  small:∀x∈coverK pts fr to,x≤pts.length
  mem:withinK a fr to=true→cntK a pts∈coverK pts fr to
end Go.AM
namespace Go.AM
open Go
end Go.AM
namespace Go.AM
open Go
set_option maxRecDepth 20000
end Go.AM
namespace Go.AM
open Go
set_option maxRecDepth 20000
end Go.AM
namespace Go.AM
open Go
set_option maxRecDepth 20000
end Go.AM
namespace Go.AM
open Go
set_option maxRecDepth 20000
end Go.AM
namespace Go.AM
open Go
set_option maxRecDepth 20000
end Go.AM
namespace Go.AM
open Go
set_option maxRecDepth 20000
def restLe (a b:Rd):Prop:=∀q,b=some q→∃p,a=some p∧q.length≤p.length
theorem restLe.refl (a:Rd):restLe a a:=fun q h=>⟨q,h,Nat.le_refl _⟩
theorem restLe.trans {a b c:Rd} (h:restLe a b) (h2:restLe b c):restLe a c:=fun q hq=>by
  obtain ⟨p,hp,hl⟩:=h2 q hq
  obtain ⟨p2,hp2,hl2⟩:=h p hp
  exact ⟨p2,hp2,by omega⟩
end Go.AM
namespace Go.AM
open Go
set_option maxRecDepth 20000
end Go.AM
namespace Go.AM
open Go
set_option maxRecDepth 20000
end Go.AM
namespace Go.AM
open Go
structure Rec where
  kind:Int
  id:Int
  snap:Stp
  stamp:Stp
  writes:List Wr
  yes:Bool
  parts:List Int
  deriving DecidableEq
def pI (n:Int):AV := .s (.int .i64 n)
def lstN (l:List Int):AV := .list .sh 1 (l.map pI)
def rcc (r:Rec):List AV:=[.s (.int .i64 r.kind),.s (.int .i64 r.id),.s (.int .i64 r.snap.t),u8 r.snap.n,.s (.int .i64 r.stamp.t),u8 r.stamp.n,.list .sh 18 (r.writes.map wA),.s (.bool r.yes),.list .sh 1 (r.parts.map pI)]
theorem ixl_pI {l:List Int} {i:Nat} (h:i < l.length):indexAddrL (.sl 1) (.list .sh 1 (l.map pI)) (.s (.int .i64 (i:Int)))=some (.rop [.s (.int .i64 l[i])]):=ixl_map h (by omega)
end Go.AM
namespace Go.AM
open Go
set_option maxRecDepth 20000
end Go.AM
namespace Go.AM
open Go
set_option maxRecDepth 20000
theorem wrap_pred {i:Nat} (h:i≤9223372036854775807):IntKind.i64.wrap ((i:Int) - 1)=(i:Int) - 1:=wrap_i64 (by omega) (by omega)
end Go.AM
namespace Go.AM
open Go
set_option maxRecDepth 20000
end Go.AM
namespace Go.AM
open Go
set_option maxRecDepth 20000
def CmpSS (C:CallW) (f:FuncId):Prop:=∀(a b:Stp),FnS C f [.agg (stc a),.agg (stc b)] (.i (cmpS a b))
end Go.AM
namespace Go.AM
open Go
open AV renaming undef → uu
set_option maxRecDepth 20000
def gparts (prev:Int):List Int→Bool
  | []=>true
  | x :: l=>if x < 0 then false else if 8≤x then false else if x≤prev then false else gparts x l
def goodParts (l:List Int):Bool:=gparts (-1) l && decide (0 < l.length)
def prevAt (l:List Int) (i:Nat):Int:=if 0 < i then l.getD (i - 1) 0 else -1
theorem gparts_step {l:List Int} {i:Nat} (h:i < l.length):gparts (prevAt l i) (l.drop i)=if l[i] < 0 then false else if 8≤l[i] then false else if l[i]≤prevAt l i then false else gparts (prevAt l (i + 1)) (l.drop (i + 1)):=by
  rw [List.drop_eq_getElem_cons h,gparts]
  have:prevAt l (i + 1)=l[i]:=by
    unfold prevAt; rw [if_pos (by omega)]; simp [List.getD,h]
  rw [this]
def PartsS (C:CallW) (f:FuncId):Prop:=∀(l:List Int) S H (K:AV→St→Prop),l.length≤9223372036854775807→K (.bool (goodParts l)) ⟨S,H⟩→C (.fn f) [lstN l] ⟨S,H⟩ K
set_option maxHeartbeats 16000000 in
theorem rec_GoodParts_spec {C:CallW} (hC:LeC C C) (P:Program):∀(l:List Int) S H (K:AV→St→Prop),l.length≤9223372036854775807→K (.bool (goodParts l)) ⟨S,H⟩→runL C P C_rec_GoodParts [lstN l] ⟨S,H⟩ K:=by
  intro l S H K hl hK
  unfold goodParts at hK
  simp only [lstN,C_rec_GoodParts,A_,simprocAttr,ne_eq,U_rec_GoodParts.1]
  refine loop_rule hC (α:=Nat) (fun a=>l.length - a) (fun a=>[.list .sh 1 (l.map pI),uu,uu,uu,uu,.list .sh 1 (l.map pI),.s (.int .i64 l.length),.s (.int .i64 a),uu,uu,uu,uu,uu,uu,uu,uu,uu,uu,uu,uu,uu,uu,uu,uu,uu,uu,uu,uu,uu,uu,uu,uu,uu,uu,uu]) (fun _=>S) (fun a=>H) (fun a=>a≤l.length∧gparts (-1) l=gparts (prevAt l a) (l.drop a)) 0 ⟨by simp,rfl⟩ rfl (by simp) rfl (fun a _=>by simp [AV.under,AV.under.go]) ?_
  rintro i ⟨hi,hinv⟩ ih
  by_cases h16:i < l.length
  case neg =>
    have hlt:¬((i:Int) < (l.length:Int)):=by omega
    rw [hinv,List.drop_of_length_le (by omega),gparts,Bool.true_and] at hK
    by_cases h0:0 < l.length
    · have h0':((1:Int)≤(l.length:Int)):=by omega
      rw [decide_eq_true h0] at hK
      simp only [A_,simprocAttr,ne_eq,U_rec_GoodParts.1,hlt,h0']
      exact hK
    · have h0':¬((1:Int)≤(l.length:Int)):=by omega
      rw [decide_eq_false h0] at hK
      simp only [A_,simprocAttr,ne_eq,U_rec_GoodParts.1,hlt,h0']
      exact hK
  have hlt:((i:Int) < (l.length:Int)):=by omega
  have hw:IntKind.i64.wrap ((i:Int) + 1)=(i:Int) + 1:=wrap_i64 (by omega) (by omega)
  have hx:=ixl_pI h16
  rw [gparts_step h16] at hinv
  by_cases e1:l[i] < 0
  · rw [if_pos e1] at hinv
    rw [hinv,Bool.false_and] at hK
    simp only [A_,simprocAttr,ne_eq,U_rec_GoodParts.1,hlt,hx,e1]
    exact hK
  by_cases e2:8≤l[i]
  · rw [if_neg e1,if_pos e2] at hinv
    rw [hinv,Bool.false_and] at hK
    simp only [A_,simprocAttr,ne_eq,U_rec_GoodParts.1,hlt,hx,e1,e2]
    exact hK
  rw [if_neg e1,if_neg e2] at hinv
  by_cases h0:0 < i
  · have h0':((0:Int) < (i:Int)):=by omega
    have hw2:IntKind.i64.wrap ((i:Int) - 1)=((i - 1:Nat):Int):=by rw [wrap_pred (by omega)]; omega
    have hx2:=ixl_pI (l:=l) (i:=i - 1) (by omega)
    have hp:prevAt l i=l[i - 1]'(by omega):=by unfold prevAt; rw [if_pos h0]; simp [List.getD,show i - 1 < l.length by omega]
    rw [hp] at hinv
    by_cases e3:l[i]≤l[i - 1]'(by omega)
    · rw [if_pos e3] at hinv
      rw [hinv,Bool.false_and] at hK
      simp only [A_,simprocAttr,ne_eq,U_rec_GoodParts.1,hlt,hx,e1,e2,h0',hw2,hx2,e3]
      exact hK
    · rw [if_neg e3] at hinv
      simp only [A_,simprocAttr,ne_eq,U_rec_GoodParts.1,hlt,hx,e1,e2,h0',hw2,hx2,e3,hw]
      exact ih (i + 1) _ _ _ (by omega) ⟨by omega,hinv⟩ rfl (by simp) rfl
  · have h0':¬((0:Int) < (i:Int)):=by omega
    have hp:prevAt l i = -1:=by unfold prevAt; rw [if_neg h0]
    rw [hp,if_neg (by omega)] at hinv
    simp only [A_,simprocAttr,ne_eq,U_rec_GoodParts.1,hlt,hx,e1,e2,h0',hw]
    exact ih (i + 1) _ _ _ (by omega) ⟨by omega,hinv⟩ rfl (by simp) rfl
structure Ent where
  id:Int
  snap:Stp
  stamp:Stp
  writes:List Wr
def enc (e:Ent):List AV:=[.s (.int .i64 e.id),.s (.int .i64 e.snap.t),u8 e.snap.n,.s (.int .i64 e.stamp.t),u8 e.stamp.n,.list .sh 18 (e.writes.map wA)]
def WkK (K:AV→St→Prop):AV→St→Prop:=fun v s=>∃b,(b=v∨WkL [v.sh] [b])∧K b s
end Go.AM
namespace Go.AM
open Go
set_option maxRecDepth 20000
set_option linter.unusedSectionVars false
structure KeyK {κ:Type} [DecidableEq κ] (kk:KK) (kf:κ→AV):Prop where
  fits:∀a,kk.fits (kf a)=true
  eq:∀a b,AV.beq (kf a) (kf b)=decide (a=b)
theorem keyK_int:KeyK (.one (.int .i64)) iA:=⟨fun a=>rfl,fun a b=>by simp [iA,AV.beq]⟩
section
variable {κ β:Type} [DecidableEq κ] {kk:KK} {kf:κ→AV} {kp:β→κ} {vf:β→AV}
def RelM (kf:κ→AV) (kp:β→κ) (vf:β→AV) (es:List Entry) (l:List β):Prop:=es.map (fun e=>(e.key,e.val))=l.map fun x=>(kf (kp x),vf x)
structure MapG (kf:κ→AV) (kp:β→κ) (vf:β→AV) (es:List Entry) (c:Nat) (l:List β):Prop where
  rel:RelM kf kp vf es l
  nd:(es.map (·.born)).Nodup
  lt:∀e∈es,e.born < c
def getB (kp:β→κ) (l:List β) (k:κ):Option β:=l.find? fun x=>decide (kp x=k)
theorem find_none (hK:KeyK kk kf):∀{es:List Entry} {l:List β} {k:κ} {i:Nat},RelM kf kp vf es l→(∀x∈l,kp x≠k)→findL kk (kf k) es i=some none
  | [],[],k,i,_,_=>rfl
  | [],x :: l,k,i,h,_=>by cases h
  | e :: es,[],k,i,h,_=>by cases h
  | e :: es,x :: l,k,i,h,hk=>by
    unfold RelM at h
    simp only [List.map_cons,List.cons.injEq,Prod.mk.injEq] at h
    have hq:keyEqL kk (kf k) e.key=some false:=by
      rw [h.1.1]
      simp only [keyEqL,hK.fits,and_self,if_true,hK.eq]
      rw [decide_eq_false fun e=>hk x List.mem_cons_self e.symm]
    rw [findL,hq]
    exact find_none hK h.2 fun y hy=>hk y (List.mem_cons_of_mem _ hy)
theorem find_some (hK:KeyK kk kf):∀{es:List Entry} {l:List β} {k:κ} {x:β} {i:Nat},RelM kf kp vf es l→getB kp l k=some x→∃j e,j < l.length∧l[j]? = some x∧es[j]? = some e∧e.val=vf x∧kp x=k∧(∀m,m < j→∀y,l[m]? = some y→kp y≠k)∧findL kk (kf k) es i=some (some (i + j,e))
  | [],[],k,x,i,_,h2=>by cases h2
  | [],y :: l,k,x,i,h,_=>by cases h
  | e :: es,[],k,x,i,h,_=>by cases h
  | e :: es,y :: l,k,x,i,h,h2=>by
    unfold RelM at h
    simp only [List.map_cons,List.cons.injEq,Prod.mk.injEq] at h
    unfold getB at h2
    rw [List.find?_cons] at h2
    by_cases hy:kp y=k
    · rw [decide_eq_true hy] at h2
      have hxy:y=x:=by simpa using h2
      subst hxy
      have hq:keyEqL kk (kf k) e.key=some true:=by
        rw [h.1.1]
        simp only [keyEqL,hK.fits,and_self,if_true,hK.eq]
        rw [decide_eq_true hy.symm]
      refine ⟨0,e,by simp,rfl,rfl,h.1.2,hy,fun m hm=>by omega,?_⟩
      rw [findL,hq]; rfl
    · rw [decide_eq_false hy] at h2
      have hq:keyEqL kk (kf k) e.key=some false:=by
        rw [h.1.1]
        simp only [keyEqL,hK.fits,and_self,if_true,hK.eq]
        rw [decide_eq_false fun e=>hy e.symm]
      obtain ⟨j,e',q1,q2,q3,q4,q5,q6,q7⟩:=find_some hK (i:=i + 1) h.2 h2
      refine ⟨j + 1,e',by simpa using q1,by simpa using q2,by simpa using q3,q4,q5,fun m hm z hz => ?_,?_⟩
      · cases m with
        | zero => have : y = z := by simpa using hz
                  subst this; exact hy
        | succ m=>exact q6 m (by omega) z (by simpa using hz)
      · rw [findL,hq]
        show findL kk (kf k) es (i + 1)=_
        rw [q7]
        congr 3; omega
theorem getB_none {l:List β} {k:κ} (h:getB kp l k=none):∀x∈l,kp x≠k:=by
  unfold getB at h
  rw [List.find?_eq_none] at h
  exact fun x hx e=>h x hx (decide_eq_true e)
def lookR (vf:β→AV) (z:AV) (ok:Bool):Option β→AV
  | some x=>if ok then .tup [vf x,.bool true] else vf x
  | none=>if ok then .tup [z,.bool false] else z
theorem map_look (hK:KeyK kk kf) {S:List (List AV)} {H:List HObj} {h c:Nat} {es:List Entry} {l:List β} {k:κ} {z:AV} {ok:Bool} (hm:H[h]? = some (.map es c)) (hR:RelM kf kp vf es l):lookupL kk z ok (.map h) (kf k) ⟨S,H⟩=some (lookR vf z ok (getB kp l k)):=by
  have hmo:mapOf ⟨S,H⟩ (.map h)=some (es,c):=by simp [mapOf,hm]
  simp only [lookupL,hK.fits,if_true,hmo]
  cases hg:getB kp l k with
  | none=>rw [find_none hK hR (getB_none hg)]; rfl
  | some x =>
    obtain ⟨j,e,q1,q2,q3,q4,q5,q6,q7⟩:=find_some hK (i:=0) hR hg
    rw [q7]
    simp only [q4,lookR]
theorem map_new (hK:KeyK kk kf) {S:List (List AV)} {H:List HObj} {h c:Nat} {es:List Entry} {l:List β} {k:κ} {v:AV} (hm:H[h]? = some (.map es c)) (hR:RelM kf kp vf es l) (hk:∀x∈l,kp x≠k) (hv:AV.under 0 v=true):updateL kk (.map h) (kf k) v ⟨S,H⟩=some ⟨S,H.set h (.map (es ++ [⟨kf k,v,c⟩]) (c + 1))⟩:=by
  have hmo:mapOf ⟨S,H⟩ (.map h)=some (es,c):=by simp [mapOf,hm]
  simp only [updateL,hK.fits,hv,and_self,if_true,hmo,find_none hK hR hk]
  rfl
theorem MapG.new {es:List Entry} {c:Nat} {l:List β} {x:β} (h:MapG kf kp vf es c l):MapG kf kp vf (es ++ [⟨kf (kp x),vf x,c⟩]) (c + 1) (l ++ [x]):=by
  obtain ⟨h1,h2,h3⟩:=h
  refine ⟨?_,?_,?_⟩
  · unfold RelM at h1 ⊢
    rw [List.map_append,List.map_append,h1]; rfl
  · rw [List.map_append,List.nodup_append]
    refine ⟨h2,by simp,fun a ha b hb => ?_⟩
    simp only [List.map_cons,List.map_nil,List.mem_singleton] at hb
    rw [List.mem_map] at ha
    obtain ⟨e,he,rfl⟩:=ha
    have:=h3 e he
    omega
  · intro e he
    rcases List.mem_append.1 he with he | he
    · have:=h3 e he; omega
    · simp only [List.mem_singleton] at he; subst he; exact Nat.lt_succ_self _
theorem MapG.del (hK:KeyK kk kf) {H:List HObj} {h c:Nat} {es:List Entry} {l:List β} {k:κ} (hm:H[h]? = some (.map es c)) (hG:MapG kf kp vf es c l) (hnd:(l.map kp).Nodup):∃es',(∀S:List (List AV),deleteL kk (.map h) (kf k) ⟨S,H⟩=some ⟨S,H.set h (.map es' c)⟩)∧MapG kf kp vf es' c (l.filter fun x=>decide (kp x≠k)):=by
  have hmo:∀S,mapOf ⟨S,H⟩ (.map h)=some (es,c):=fun S=>by simp [mapOf,hm]
  obtain ⟨hR,h2,h3⟩:=hG
  simp only [deleteL,hK.fits,if_true,hmo]
  cases hg:getB kp l k with
  | none =>
    refine ⟨es,fun S=>by rw [find_none hK hR (getB_none hg)]; rfl,?_,h2,h3⟩
    rw [List.filter_eq_self.2 fun x hx=>decide_eq_true (getB_none hg x hx)]
    exact hR
  | some x =>
    obtain ⟨j,e,q1,q2,q3,q4,q5,q6,q7⟩:=find_some hK (i:=0) hR hg
    refine ⟨es.eraseIdx j,fun S=>by rw [q7,Nat.zero_add]; rfl,?_,?_,?_⟩
    · have hf:l.filter (fun x=>decide (kp x≠k))=l.eraseIdx j:=by
        rw [List.eraseIdx_eq_take_drop_succ]
        have hl:l=l.take j ++ l[j] :: l.drop (j + 1):=by rw [List.getElem_cons_drop,List.take_append_drop]
        have hx:l[j]=x:=by rw [List.getElem?_eq_getElem q1] at q2; exact Option.some.inj q2
        conv=>lhs; rw [hl]
        rw [List.filter_append,List.filter_cons,hx,if_neg (by simp [q5])]
        congr 1
        · refine List.filter_eq_self.2 fun y hy=>decide_eq_true ?_
          obtain ⟨m,hm,rfl⟩:=List.mem_iff_getElem.1 hy
          rw [List.length_take] at hm
          rw [List.getElem_take]
          exact q6 m (by omega) _ (List.getElem?_eq_getElem (by omega))
        · refine List.filter_eq_self.2 fun y hy=>decide_eq_true ?_
          obtain ⟨m,hm,rfl⟩:=List.mem_iff_getElem.1 hy
          rw [List.length_drop] at hm
          rw [List.getElem_drop]
          intro hy2
          have h5:=List.pairwise_iff_getElem.1 hnd j (j + 1 + m) (by simpa using q1) (by simp; omega) (by omega)
          rw [List.getElem_map,List.getElem_map,hx,q5,hy2] at h5
          exact h5 rfl
      rw [hf]
      unfold RelM at hR ⊢
      rw [List.eraseIdx_eq_take_drop_succ,List.eraseIdx_eq_take_drop_succ,List.map_append,List.map_append,List.map_take,List.map_take,List.map_drop,List.map_drop,hR]
    · exact h2.sublist ((List.eraseIdx_sublist es j).map _)
    · exact fun e he=>h3 e ((List.eraseIdx_sublist es j).mem he)
end
end Go.AM
namespace Go.AM
open Go
set_option maxRecDepth 20000
def entA (e:Ent):AV := .agg (enc e)
def holV (p:Key×Int):AV:=iA p.2
structure TabH (H:List HObj) (h h1 h2:Nat) (tb:List Ent) (hl:List (Key×Int)):Prop where
  n1:h≠h1
  n2:h≠h2
  n12:h1≠h2
  at0:H[h]? = some (.cells [.map h1,.map h2])
  at1:∃es c,H[h1]? = some (.map es c)∧MapG iA Ent.id entA es c tb
  at2:∃es c,H[h2]? = some (.map es c)∧MapG kA Prod.fst holV es c hl
def Ext (H H':List HObj) (h1 h2:Nat):Prop:=H.length≤H'.length∧∀i,i < H.length→i≠h1→i≠h2→H'[i]? = H[i]?
theorem Ext.refl {H:List HObj} {h1 h2:Nat}:Ext H H h1 h2:=⟨Nat.le_refl _,fun _ _ _ _=>rfl⟩
theorem Ext.trans {H H' H'':List HObj} {h1 h2:Nat} (a:Ext H H' h1 h2) (b:Ext H' H'' h1 h2):Ext H H'' h1 h2 :=
  ⟨Nat.le_trans a.1 b.1,fun i hi e1 e2=>(b.2 i (Nat.lt_of_lt_of_le hi a.1) e1 e2).trans (a.2 i hi e1 e2)⟩
theorem Ext.app {H G:List HObj} {h1 h2:Nat}:Ext H (H ++ G) h1 h2:=⟨by simp,fun i hi _ _=>List.getElem?_append_left hi⟩
theorem hlt {H:List HObj} {h:Nat} {o:HObj} (e:H[h]? = some o):h < H.length:=(List.getElem?_eq_some_iff.1 e).1
theorem happ {H G:List HObj} {h:Nat} {o:HObj} (e:H[h]? = some o):(H ++ G)[h]? = some o:=by rw [List.getElem?_append_left (hlt e)]; exact e
theorem hset {H:List HObj} {h j:Nat} {o o':HObj} (hne:j≠h) (e:H[h]? = some o):(H.set j o')[h]? = some o:=by rw [List.getElem?_set_ne hne]; exact e
theorem hself {H:List HObj} {h:Nat} {o o':HObj} (e:H[h]? = some o):(H.set h o')[h]? = some o':=by rw [List.getElem?_set_self (hlt e)]
theorem TabH.app {H G:List HObj} {h h1 h2:Nat} {tb:List Ent} {hl:List (Key×Int)} (t:TabH H h h1 h2 tb hl):TabH (H ++ G) h h1 h2 tb hl:=by
  obtain ⟨n1,n2,n12,a0,⟨e1,c1,a1,g1⟩,⟨e2,c2,a2,g2⟩⟩:=t
  exact ⟨n1,n2,n12,happ a0,⟨e1,c1,happ a1,g1⟩,⟨e2,c2,happ a2,g2⟩⟩
end Go.AM
namespace Go.AM
open Go
set_option maxRecDepth 20000
theorem getB_mem {β κ:Type} [DecidableEq κ] {kp:β→κ} {l:List β} {k:κ} {x:β} (h:getB kp l k=some x):x∈l∧kp x=k:=⟨List.mem_of_find?_eq_some h,by have:=List.find?_some h; exact of_decide_eq_true this⟩
end Go.AM
namespace Go.AM
open Go
set_option maxRecDepth 20000
end Go.AM
namespace Go.AM
open Go
set_option maxRecDepth 20000
end Go.AM
namespace Go.AM
open Go
set_option maxRecDepth 20000
section
variable {C:CallW} {P:Program} {rd:Bool}
theorem opS_rng {d x l is fr S H K h es c} (hx:seL fr x = .map h) (hm:H[h]? = some (.map es c)):opS C P rd d (.rng x) l is fr ⟨S,H⟩ K=runS C P rd l is (putA d (.ptr (.heap H.length) 0) fr) ⟨S,H ++ [.iter ⟨some h,c,[],c⟩]⟩ K:=by
  have hmo:mapOf ⟨S,H⟩ (.map h)=some (es,c):=by simp [mapOf,hm]
  unfold opS
  rw [show mayb (.rng x) fr=false from rfl]
  simp only [mb]
  unfold doL
  simp only [settledL,settleL,hx,hmo]
theorem opS_nxt {d x l is fr S H K n h es c} {it:IterA} (hx:seL fr x = .ptr (.heap n) 0) (hi:H[n]? = some (.iter it)) (hp:it.map=some h) (hm:H[h]? = some (.map es c)):opS C P rd d (.nxt x) l is fr ⟨S,H⟩ K=((it.seen=[]∨es=[]∨∃e∈es,e.born < it.stepped)∧((∀e∈es,e.born∈it.seen∨it.since≤e.born)→runS C P rd l is (putA d (.tup [.bool false]) fr) ⟨S,H⟩ K)∧∀e∈es,e.born∉it.seen→runS C P rd l is (putA d (.tup [.bool true,e.key,e.val]) fr) ⟨S,H.set n (.iter { it with seen:=it.seen ++ [e.born],stepped:=c })⟩ K):=by
  have hmo:mapOf ⟨S,H⟩ (.map h)=some (es,c):=by simp [mapOf,hm]
  have hio:iterOf ⟨S,H⟩ (.ptr (.heap n) 0)=some (n,it):=by simp [iterOf,hi]
  unfold opS
  rw [show mayb (.nxt x) fr=false from rfl]
  simp only [mb]
  unfold doL
  simp only [settledL,settleL,hx,hio,hp,hmo]
  rfl
theorem opS_ent {d x l is fr S H K n h es c b} {e:Entry} {it:IterA} (hx:seL fr x = .ptr (.heap n) 0) (hi:H[n]? = some (.iter it)) (hp:it.map=some h) (hm:H[h]? = some (.map es c)) (hb:it.seen.getLast? = some b) (hc:c=it.stepped) (hf:es.find? (fun e=>e.born == b)=some e):opS C P rd d (.ent x) l is fr ⟨S,H⟩ K=runS C P rd l is (putA d (.tup [e.key,e.val]) fr) ⟨S,H⟩ K:=by
  have hmo:mapOf ⟨S,H⟩ (.map h)=some (es,c):=by simp [mapOf,hm]
  have hio:iterOf ⟨S,H⟩ (.ptr (.heap n) 0)=some (n,it):=by simp [iterOf,hi]
  unfold opS
  rw [show mayb (.ent x) fr=false from rfl]
  simp only [mb]
  unfold doL
  simp only [settledL,settleL,hx,hio,hp,hb,hmo,hf]
  simp [hc]
end
theorem born_find {es:List Entry} (hnd:(es.map (·.born)).Nodup) {e:Entry} (he:e∈es):es.find? (fun x=>x.born == e.born)=some e:=by
  induction es with
  | nil=>cases he
  | cons y es ih =>
    rw [List.map_cons,List.nodup_cons] at hnd
    rw [List.find?_cons]
    rcases List.mem_cons.1 he with rfl | he
    · simp
    · have:(y.born == e.born)=false:=by
        cases hq:(y.born == e.born) with
        | false=>rfl
        | true =>
          have hq:y.born=e.born:=by simpa using hq
          exact absurd (List.mem_map.2 ⟨e,he,hq.symm⟩) hnd.1
      rw [this]
      exact ih hnd.2 he
end Go.AM
namespace Go.AM
open Go
open AV renaming undef → uu
set_option maxRecDepth 20000
def KeysS (C:CallW) (f g:FuncId):Prop:=∀(hm:Nat) S H (K:AV→St→Prop),K (.fn (.func g) [] [.ptr (.heap H.length) 0]) ⟨S,H ++ [.cells [.map hm]]⟩→C (.fn f) [.map hm] ⟨S,H⟩ K
theorem maps_Keys_spec {C:CallW} (P:Program) {c:Nat→FuncId}:∀(hm:Nat) S H (K:AV→St→Prop),K (.fn (.func (c 0)) [] [.ptr (.heap H.length) 0]) ⟨S,H ++ [.cells [.map hm]]⟩→runL C P (C_maps_Keys_Entry c) [.map hm] ⟨S,H⟩ K:=by
  intro hm S H K hK
  simp only [C_maps_Keys_Entry,A_,simprocAttr,ne_eq]
  exact hK
def KeysItS (C:CallW) (g:FuncId):Prop:=∀(G:List Int→List HObj) (N h bx hm c:Nat) (es:List Entry) (x:Entry→Int) (S:List (List AV)) (K:AV→St→Prop),(∀acc,(G acc).length=N)→(∀acc,(G acc)[bx]? = some (.cells [.map hm]))→(∀acc,(G acc)[hm]? = some (.map es c))→(es.map (·.born)).Nodup→(∀e∈es,e.born < c)→(∀e∈es,e.key=iA (x e)) →
  (∀acc v it S' (K':AV→St→Prop),acc.length < es.length→K' (.bool true) ⟨S',G (acc ++ [v]) ++ [it]⟩→C (.yield h) [.s (.int .i64 v)] ⟨S',G acc ++ [it]⟩ K')→(∀acc it,acc.Perm (es.map x)→K (.tup []) ⟨S,G acc ++ [it]⟩)→C (.fn g) [.yield h,.ptr (.heap bx) 0] ⟨S,G []⟩ K
set_option maxHeartbeats 4000000 in
theorem maps_Keys1_spec {C:CallW} (hC:LeC C C) (P:Program):∀(G:List Int→List HObj) (N h bx hm c:Nat) (es:List Entry) (x:Entry→Int) (S:List (List AV)) (K:AV→St→Prop),(∀acc,(G acc).length=N)→(∀acc,(G acc)[bx]? = some (.cells [.map hm]))→(∀acc,(G acc)[hm]? = some (.map es c))→(es.map (·.born)).Nodup→(∀e∈es,e.born < c)→(∀e∈es,e.key=iA (x e)) →
  (∀acc v it S' (K':AV→St→Prop),acc.length < es.length→K' (.bool true) ⟨S',G (acc ++ [v]) ++ [it]⟩→C (.yield h) [.s (.int .i64 v)] ⟨S',G acc ++ [it]⟩ K')→(∀acc it,acc.Perm (es.map x)→K (.tup []) ⟨S,G acc ++ [it]⟩)→runL C P C_maps_Keys_Entry_1 [.yield h,.ptr (.heap bx) 0] ⟨S,G []⟩ K:=by
  intro G N h bx hm c es x S K hN hbx hmp hnd hlt hkey hy hK
  have b0:=hbx []
  simp only [C_maps_Keys_Entry_1,A_,simprocAttr,ne_eq,U_maps_Keys_Entry_1.1,b0]
  rw [opS_rng rfl (hmp [])]
  simp only [C_maps_Keys_Entry_1,A_,simprocAttr,ne_eq,U_maps_Keys_Entry_1.1,hN]
  refine loop_rule hC (α:=List Entry) (fun vs=>es.length - vs.length) (fun vs=>[.yield h,uu,uu,uu,uu,.ptr (.heap N) 0,uu,uu,uu,uu,uu,uu,uu,uu]) (fun _=>S) (fun vs=>G (vs.map x) ++ [.iter ⟨some hm,c,vs.map (·.born),c⟩]) (fun vs=>(vs.map (·.born)).Nodup∧∀e∈vs,e∈es) [] ⟨.nil,fun e h=>by cases h⟩ (by simp [keep,zm]) (by rw [List.take_of_length_le (Nat.le_refl _)]) rfl (fun a _=>by simp [AV.under,AV.under.go]) ?_
  rintro vs ⟨hvn,hvs⟩ ih
  have hit:(G (vs.map x) ++ [.iter ⟨some hm,c,vs.map (·.born),c⟩])[N]? = some (.iter ⟨some hm,c,vs.map (·.born),c⟩):=by rw [←hN (vs.map x)]; simp
  have hmm:∀o,(G (vs.map x) ++ [o])[hm]? = some (.map es c):=fun o=>happ (hmp _)
  simp only [C_maps_Keys_Entry_1,A_,simprocAttr,ne_eq,U_maps_Keys_Entry_1.1]
  rw [opS_nxt rfl hit rfl (hmm _)]
  refine ⟨?_,fun hall => ?_,fun e he hns => ?_⟩
  · cases vs with
    | nil=>exact .inl rfl
    | cons v vs=>exact .inr (.inr ⟨v,hvs v List.mem_cons_self,hlt v (hvs v List.mem_cons_self)⟩)
  · have hp:vs.Perm es:=by
      refine (List.perm_ext_iff_of_nodup ?_ ?_).2 fun e=>⟨hvs e,fun he => ?_⟩
      · exact List.Pairwise.of_map (·.born) (fun a b h e=>h (by rw [e])) hvn
      · exact List.Pairwise.of_map (·.born) (fun a b h e=>h (by rw [e])) hnd
      · rcases hall e he with h1 | h1
        · rw [List.mem_map] at h1
          obtain ⟨v,hv,hb⟩:=h1
          have q1:=born_find hnd (hvs v hv)
          have q2:=born_find hnd he
          rw [hb,q2] at q1
          rw [Option.some.inj q1]; exact hv
        · have:=hlt e he
          exact absurd h1 (by dsimp only; omega)
    simp only [C_maps_Keys_Entry_1,A_,simprocAttr,ne_eq,U_maps_Keys_Entry_1.1]
    exact hK _ _ (hp.map x)
  · have hk:=hkey e he
    have hset:∀o o':HObj,(G (vs.map x) ++ [o]).set N o'=G (vs.map x) ++ [o']:=fun o o'=>by rw [←hN (vs.map x)]; simp
    have hit2:(G (vs.map x) ++ [.iter ⟨some hm,c,vs.map (·.born) ++ [e.born],c⟩])[N]? = some (.iter ⟨some hm,c,vs.map (·.born) ++ [e.born],c⟩):=by rw [←hN (vs.map x)]; simp
    dsimp only
    rw [hset]
    have hll:vs.length < es.length:=by
      have hb:((vs ++ [e]).map (·.born)).Nodup:=by
        rw [List.map_append,List.nodup_append]
        exact ⟨hvn,by simp,fun a ha b hb=>by
          have:b=e.born:=by simpa using hb
          subst this
          exact fun e2=>hns (e2▸ha)⟩
      have hnd2:(vs ++ [e]).Nodup:=List.Pairwise.of_map (·.born) (fun a b h e=>h (by rw [e])) hb
      have h1:(vs ++ [e]).length≤es.length:=hnd2.length_le_of_subset fun z hz=>by
        rcases List.mem_append.1 hz with hz | hz
        · exact hvs z hz
        · have:z=e:=by simpa using hz
          rw [this]; exact he
      simp at h1; omega
    simp only [C_maps_Keys_Entry_1,A_,simprocAttr,ne_eq,U_maps_Keys_Entry_1.1]
    rw [opS_ent rfl hit2 rfl (hmm _) (b:=e.born) (by simp) rfl (born_find hnd he),hk]
    simp only [iA,C_maps_Keys_Entry_1,A_,simprocAttr,ne_eq,U_maps_Keys_Entry_1.1]
    refine hy _ (x e) _ _ _ (by simpa using hll) ?_
    simp only [C_maps_Keys_Entry_1,A_,simprocAttr,ne_eq,U_maps_Keys_Entry_1.1]
    refine ih (vs ++ [e]) _ _ _ (by simp; omega) ⟨?_,fun z hz => ?_⟩ (by simp [keep,zm]) (by rw [List.take_of_length_le (Nat.le_refl _)]) (by simp)
    · rw [List.map_append,List.nodup_append]
      exact ⟨hvn,by simp,fun a ha b hb=>by
        have:b=e.born:=by simpa using hb
        subst this
        exact fun e2=>hns (e2▸ha)⟩
    · rcases List.mem_append.1 hz with hz | hz
      · exact hvs z hz
      · have:z=e:=by simpa using hz
        rw [this]; exact he
end Go.AM
namespace Go.AM
open Go
open AV renaming undef → uu
set_option maxRecDepth 20000
def slZ (l:List Int):AV:=if l=[] then .s .nilS else .list .uniq 1 (l.map iA)
theorem slZ_under {n:Nat} {l:List Int}:AV.under n (slZ l)=true:=by unfold slZ; split <;> rfl
theorem slZ_nil:slZ [] = .s .nilS:=rfl
theorem slZ_snoc (l:List Int) (v:Int):slZ (l ++ [v]) = .list .uniq 1 ((l ++ [v]).map iA):=if_neg (by simp)
theorem app_slZ {e:ET} {l:List Int} {v:Int} {σ:St} (h1:e.c=1) (h2:e.bytes=8) (hl:l.length≤1000000):appendL e false (slZ l) (.list .full 1 [.s (.int .i64 v)]) σ=some (.list .uniq 1 ((l ++ [v]).map iA),σ):=by
  have h:=app_slG (e:=e) (es:=l.map iA) (a:=iA v) (σ:=σ) rfl (by rw [List.length_map,h2]; omega)
  rw [h1] at h
  have e1:slG 1 (l.map iA)=slZ l:=by unfold slG slZ; by_cases e:l=[] <;> simp [e]
  rw [e1] at h
  rw [show (AV.s (.int .i64 v))=iA v from rfl,h]
  unfold slG
  rw [if_neg (by simp),List.map_append]
  rfl
theorem load_kept {S:List (List AV)} {H G:List HObj} {l:List Int}:load1L true (.ptr (.heap H.length) 0) ⟨S,H ++ .cells [slZ l] :: G⟩=some (slZ l,⟨S,H ++ .cells [(slZ l).left] :: G⟩):=by
  have hb:boxOf ⟨S,H ++ .cells [slZ l] :: G⟩ (.heap H.length)=some [slZ l]:=by simp [boxOf]
  simp only [load1L,hb,Option.bind_some]
  simp [splice,setBox]
theorem store_kept {S:List (List AV)} {H G:List HObj} {a:AV} {es:List AV}:storeUL (.ptr (.heap H.length) 0) (.list .uniq 1 es) ⟨S,H ++ .cells [a] :: G⟩=some ⟨S,H ++ .cells [.list .uniq 1 es] :: G⟩:=by
  have hb:boxOf ⟨S,H ++ .cells [a] :: G⟩ (.heap H.length)=some [a]:=by simp [boxOf]
  simp [storeUL,AV.fit,AV.kept,AV.isCell,hb,writeCells,mayHold,AV.under.go,AV.under,splice,setBox]
structure MapI (H:List HObj) (bx hm c:Nat) (es:List Entry) (x:Entry→Int):Prop where
  box:H[bx]? = some (.cells [.map hm])
  map:H[hm]? = some (.map es c)
  nd:(es.map (·.born)).Nodup
  lt:∀e∈es,e.born < c
  key:∀e∈es,e.key=iA (x e)
  len:es.length≤1000000
def AppSeqS (C:CallW) (f g:FuncId):Prop:=∀(bx hm c:Nat) (es:List Entry) (x:Entry→Int) S H (K:AV→St→Prop),MapI H bx hm c es x→(∀acc G,acc.Perm (es.map x)→K (slZ acc) ⟨S,H ++ G⟩)→C (.fn f) [.s .nilS,.fn (.func g) [] [.ptr (.heap bx) 0]] ⟨S,H⟩ K
set_option maxHeartbeats 4000000 in
theorem AppendSeq_spec {C:CallW} (hC:LeC C C) (P:Program) {c:Nat→FuncId} {as1 bd1:Code} {g:FuncId} (h1:KeysItS C g) (hB:hasBody P g=true) (hR:RoundOK C P (c 0) as1 bd1 (C_slices_AppendSeq_int64_a0).code (C_slices_AppendSeq_int64_b0).code):∀(bx hm cc:Nat) (es:List Entry) (x:Entry→Int) S H (K:AV→St→Prop),MapI H bx hm cc es x→(∀acc G,acc.Perm (es.map x)→K (slZ acc) ⟨S,H ++ G⟩)→runL C P (C_slices_AppendSeq_int64 c as1 bd1) [.s .nilS,.fn (.func g) [] [.ptr (.heap bx) 0]] ⟨S,H⟩ K:=by
  intro bx hm cc es x S H K hM hK
  have st:=fun {S:List (List AV)} {a:AV} {es':List AV} {G:List HObj}=>store_kept (S:=S) (H:=H) (G:=G) (a:=a) (es:=es')
  simp only [C_slices_AppendSeq_int64,A_,simprocAttr,ne_eq,(U_slices_AppendSeq_int64 _ _ _).1,hB]
  refine h1 (fun acc=>H ++ [.cells [slZ acc],.loop ⟨c 0,[.s .nilS,.fn (.func g) [] [.ptr (.heap bx) 0],.ptr (.heap H.length) 0,.undef,.s .nilS,.undef,.fn (.func g) [] [.ptr (.heap bx) 0],uu,uu,uu,uu,uu,uu],[7],as1,bd1,true,none⟩]) (H.length + 2) (H.length + 1) bx hm cc es x S _ (fun acc=>by simp) (fun acc=>happ hM.box) (fun acc=>happ hM.map) hM.nd hM.lt hM.key (fun acc v it S' K' hacc hK' => ?_) (fun acc it hp => ?_)
  · have ha:∀(e:ET) (σ:St),e.c=1→e.bytes=8→appendL e false (slZ acc) (.list .full 1 [.s (.int .i64 v)]) σ=some (.list .uniq 1 ((acc ++ [v]).map iA),σ):=fun e σ h1 h2=>app_slZ h1 h2 (by have:=hM.len; omega)
    rw [List.append_assoc]
    refine hR _ _ _ _ _ _ _ (by rw [app_get]; rfl) rfl ?_
    simp only [C_slices_AppendSeq_int64_a0,C_slices_AppendSeq_int64_b0,A_,simprocAttr,ne_eq,(U_slices_AppendSeq_int64 _ _ _).1,load_kept,ha,st]
    rw [List.append_assoc,slZ_snoc] at hK'
    exact hK'
  · rw [List.append_assoc]
    simp only [C_slices_AppendSeq_int64,A_,simprocAttr,ne_eq,(U_slices_AppendSeq_int64 _ _ _).1,load_kept]
    exact ⟨slZ_under,hK _ _ hp⟩
theorem Collect_spec {C:CallW} (P:Program) {c:Nat→FuncId} {g:FuncId} (h0:AppSeqS C (c 0) g):∀(bx hm cc:Nat) (es:List Entry) (x:Entry→Int) S H (K:AV→St→Prop),MapI H bx hm cc es x→(∀acc G,acc.Perm (es.map x)→K (slZ acc) ⟨S,H ++ G⟩)→runL C P (C_slices_Collect_int64 c) [.fn (.func g) [] [.ptr (.heap bx) 0]] ⟨S,H⟩ K:=by
  intro bx hm cc es x S H K hM hK
  simp only [C_slices_Collect_int64,A_,simprocAttr,ne_eq,(U_slices_Collect_int64 _).1]
  refine h0 bx hm cc es x S H _ hM fun acc G hp => ?_
  simp only [C_slices_Collect_int64,A_,simprocAttr,ne_eq,(U_slices_Collect_int64 _).1]
  exact ⟨slZ_under,hK _ _ hp⟩
def CollS (C:CallW) (f g:FuncId):Prop:=∀(bx hm c:Nat) (es:List Entry) (x:Entry→Int) S H (K:AV→St→Prop),MapI H bx hm c es x→(∀acc G,acc.Perm (es.map x)→K (slZ acc) ⟨S,H ++ G⟩)→C (.fn f) [.fn (.func g) [] [.ptr (.heap bx) 0]] ⟨S,H⟩ K
def arrZ (l:List Int):Array Int:=l.toArray
theorem arrZ_flat (l:List Int):flat iA (arrZ l)=l.map iA:=by rw [flat_iA]; rfl
theorem thaw_slZ {fr:Fr} {t:Nat} {l:List Int} {S:List (List AV)} {H:List HObj} (hne:l≠[]) (h:fr.getD t .undef=slZ l):AM.thaw fr (.tmp t) ⟨S,H⟩=some (.row (.stk S.length) 0 l.length l.length,fr.set t (.row (.stk S.length) 0 l.length l.length),⟨S ++ [flat iA (arrZ l)],H⟩):=by
  have hc:∀l:List Int,(l.map iA).flatMap AV.cells=l.map iA:=by
    intro l
    induction l with
    | nil=>rfl
    | cons x l ih=>rw [List.map_cons,List.flatMap_cons,ih]; rfl
  have hu:∀(m:Nat) (l:List Int),underL m (l.map iA)=true:=by
    intro m l
    induction l with
    | nil=>rfl
    | cons x l ih=>exact ih
  unfold AM.thaw
  simp only [h,slZ,if_neg hne]
  rw [if_neg (by simp [hne]),hc,newBox_stk (hu _ _),arrZ_flat]
  simp
theorem thaw_slZ0 {fr:Fr} {t:Nat} {σ:St} (h:fr.getD t .undef=slZ []):AM.thaw fr (.tmp t) σ=some (.s .nilS,fr,σ):=by
  unfold AM.thaw
  simp only [h]
  rfl
theorem sorted_le {R:Array Int} {n:Nat} (hn:R.size=n) (h:Sort.SortedIn ltI 0 n R):R.toList.Pairwise (·≤·):=by
  rw [List.pairwise_iff_getElem]
  intro i j hi hj hij
  have hj':j < R.size:=by simpa using hj
  have hi':i < R.size:=by simpa using hi
  have:=h i j (Nat.zero_le _) hij (by omega)
  rw [get_bang hj',get_bang hi'] at this
  unfold ltI at this
  have:=of_decide_eq_false this
  omega
theorem sorted_perm {R:Array Int} {l:List Int} (h:Sort.PermIn 0 l.length (arrZ l) R):R.toList.Perm l:=by
  have hsz:R.size=l.length:=h.1
  have:=h.2.2
  rw [←hsz,Array.extract_size,hsz] at this
  rw [show l.length=(arrZ l).size from rfl,Array.extract_size] at this
  exact this
def lstZ (l:List Int):AV := .list .sh 1 (l.map iA)
def SortedS (C:CallW) (f g:FuncId):Prop:=∀(bx hm c:Nat) (es:List Entry) (x:Entry→Int) S H (K:AV→St→Prop),MapI H bx hm c es x→(∀ids G,ids.Perm (es.map x)→ids.Pairwise (·≤·)→K (lstZ ids) ⟨S,H ++ G⟩)→C (.fn f) [.fn (.func g) [] [.ptr (.heap bx) 0]] ⟨S,H⟩ K
set_option maxHeartbeats 4000000 in
theorem Sorted_spec {C:CallW} (P:Program) {c:Nat→FuncId} {g:FuncId} (h0:CollS C (c 0) g) (h1:SortIS C (c 1)) (h1n:OneN C (c 1) (.tup [])):∀(bx hm cc:Nat) (es:List Entry) (x:Entry→Int) S H (K:AV→St→Prop),MapI H bx hm cc es x→(∀ids G,ids.Perm (es.map x)→ids.Pairwise (·≤·)→K (lstZ ids) ⟨S,H ++ G⟩)→runL C P (C_slices_Sorted_int64 c) [.fn (.func g) [] [.ptr (.heap bx) 0]] ⟨S,H⟩ (WkK K):=by
  intro bx hm cc es x S H K hM hK
  have hfz:∀(e:ET) (σ:St),freezeL e (.s .nilS) σ=some (.s .nilS,σ):=fun _ _=>rfl
  simp only [C_slices_Sorted_int64,A_,simprocAttr,ne_eq,(U_slices_Sorted_int64 _).1]
  refine h0 bx hm cc es x S H _ hM fun acc G hp => ?_
  have hal:acc.length≤1000000:=by have:=hp.length_eq; rw [List.length_map] at this; have:=hM.len; omega
  by_cases e:acc=[]
  · subst e
    simp only [C_slices_Sorted_int64,A_,simprocAttr,ne_eq,(U_slices_Sorted_int64 _).1]
    rw [thaw_slZ0 rfl]
    simp only [C_slices_Sorted_int64,A_,simprocAttr,ne_eq,(U_slices_Sorted_int64 _).1]
    refine h1n _ _ _ ?_
    simp only [C_slices_Sorted_int64,A_,simprocAttr,ne_eq,(U_slices_Sorted_int64 _).1,slZ_nil,hfz]
    exact ⟨_,.inr (.nilS (by omega) .nil),hK [] G hp .nil⟩
  · simp only [C_slices_Sorted_int64,A_,simprocAttr,ne_eq,(U_slices_Sorted_int64 _).1]
    rw [thaw_slZ e rfl]
    have hS1:(S ++ [flat iA (arrZ acc)])[S.length]? = some (flat iA (arrZ acc)):=by simp
    simp only [C_slices_Sorted_int64,A_,simprocAttr,ne_eq,(U_slices_Sorted_int64 _).1,List.set_cons_zero,List.set_cons_succ]
    refine h1 S.length (arrZ acc) _ _ _ hS1 (by show acc.length≤_; omega) fun R hR1 hR2 => ?_
    have hRs:R.size=acc.length:=hR1.1
    have hset:∀x y:List AV,(S ++ [x]).set S.length y=S ++ [y]:=fun x y=>by simp
    rw [hset]
    have hS2:(S ++ [flat iA R])[S.length]? = some (flat iA R):=by simp
    have hf:∀{e:ET},e.c=1→e.ag=false→freezeL e (.row (.stk S.length) 0 acc.length acc.length) ⟨S ++ [flat iA R],H ++ G⟩=_:=fun h1 h2=>freeze_i (H:=H ++ G) h1 h2 hS2 (by omega)
    simp only [hset] at hf
    rw [List.take_of_length_le (by simp [hRs])] at hf
    simp only [C_slices_Sorted_int64,A_,simprocAttr,ne_eq,(U_slices_Sorted_int64 _).1,hf]
    exact ⟨_,.inl rfl,hK R.toList G ((sorted_perm hR1).trans hp) (sorted_le hRs hR2)⟩
end Go.AM
namespace Go.AM
open Go
set_option maxRecDepth 20000
set_option linter.unusedSectionVars false
section
variable {κ β:Type} [DecidableEq κ] {kk:KK} {kf:κ→AV} {kp:β→κ} {vf:β→AV}
def putB (kp:β→κ) (l:List β) (x:β):List β:=match getB kp l (kp x) with
  | some _=>l.map fun y=>if kp y=kp x then x else y
  | none=>l ++ [x]
theorem MapG.upd (hK:KeyK kk kf) {H:List HObj} {h c:Nat} {es:List Entry} {l:List β} {x:β} (hm:H[h]? = some (.map es c)) (hG:MapG kf kp vf es c l) (hnd:(l.map kp).Nodup) (hv:AV.under 0 (vf x)=true):∃es' c',(∀S:List (List AV),updateL kk (.map h) (kf (kp x)) (vf x) ⟨S,H⟩=some ⟨S,H.set h (.map es' c')⟩)∧MapG kf kp vf es' c' (putB kp l x):=by
  unfold putB
  cases hg:getB kp l (kp x) with
  | none =>
    exact ⟨_,_,fun S=>map_new hK (S:=S) (v:=vf x) hm hG.rel (getB_none hg) hv,hG.new⟩
  | some y =>
    have hmo:∀S,mapOf ⟨S,H⟩ (.map h)=some (es,c):=fun S=>by simp [mapOf,hm]
    obtain ⟨hR,h2,h3⟩:=hG
    obtain ⟨j,e,q1,q2,q3,q4,q5,q6,q7⟩:=find_some hK (i:=0) hR hg
    have hlen:es.length=l.length:=by have:=congrArg List.length hR; simpa [RelM] using this
    have hb:(es.set j { e with key:=kf (kp x),val:=vf x }).map (·.born)=es.map (·.born):=by
      refine List.ext_getElem? fun i => ?_
      rw [List.getElem?_map,List.getElem?_map]
      by_cases hi:j=i
      · subst hi
        rw [List.getElem?_set_self (by omega),q3]; rfl
      · rw [List.getElem?_set_ne hi]
    refine ⟨es.set j { e with key:=kf (kp x),val:=vf x },c,fun S => ?_,?_,?_,?_⟩
    · simp only [updateL,hK.fits,hv,and_self,if_true,hmo,q7,Nat.zero_add]; rfl
    · unfold RelM at hR ⊢
      refine List.ext_getElem? fun i => ?_
      have hRi:=congrArg (fun z:List (AV×AV)=>z[i]?) hR
      rw [List.getElem?_map,List.getElem?_map] at hRi ⊢
      rw [List.getElem?_map]
      by_cases hi:j=i
      · subst hi
        rw [List.getElem?_set_self (by omega),q2]
        simp only [Option.map_some,if_pos q5]
      · rw [List.getElem?_set_ne hi,hRi]
        cases hli:l[i]? with
        | none=>rfl
        | some z =>
          have:kp z≠kp x:=by
            intro hz
            have hi2:i < l.length:=(List.getElem?_eq_some_iff.1 hli).1
            have:=List.pairwise_iff_getElem.1 hnd
            have e1:(l.map kp)[j]'(by simpa using q1)=kp x:=by rw [List.getElem_map]; rw [List.getElem?_eq_getElem q1] at q2; rw [Option.some.inj q2]; exact q5
            have e2:(l.map kp)[i]'(by simpa using hi2)=kp x:=by rw [List.getElem_map]; rw [List.getElem?_eq_getElem hi2] at hli; rw [Option.some.inj hli]; exact hz
            rcases Nat.lt_or_gt_of_ne hi with h | h
            · exact this j i (by simpa using q1) (by simpa using hi2) h (e1.trans e2.symm)
            · exact this i j (by simpa using hi2) (by simpa using q1) h (e2.trans e1.symm)
          simp only [Option.map_some,if_neg this]
    · rw [hb]; exact h2
    · intro e' he
      obtain ⟨i,hi,rfl⟩:=List.mem_iff_getElem.1 he
      have hb2:=congrArg (fun z:List Nat=>z[i]?) hb
      rw [List.getElem?_map,List.getElem?_map,List.getElem?_eq_getElem hi] at hb2
      rw [List.length_set] at hi
      rw [List.getElem?_eq_getElem hi] at hb2
      have hb3:((es.set j { e with key:=kf (kp x),val:=vf x })[i]'(by simpa using hi)).born=es[i].born:=Option.some.inj hb2
      rw [hb3]
      exact h3 _ (List.getElem_mem hi)
theorem putB_same {l:List β} {x:β} (hnd:(l.map kp).Nodup) (hx:x∈l):putB kp l x=l:=by
  have hself:∃y,getB kp l (kp x)=some y:=by
    cases hg:getB kp l (kp x) with
    | none=>exact absurd rfl (getB_none hg x hx)
    | some y=>exact ⟨y,rfl⟩
  obtain ⟨y,hy⟩:=hself
  unfold putB
  rw [hy]
  have:∀m:List β,(m.map kp).Nodup→x∈m→(m.map fun y=>if kp y=kp x then x else y)=m:=by
    intro m
    induction m with
    | nil=>intro _ h; cases h
    | cons z m ih =>
      intro hn hm
      rw [List.map_cons,List.nodup_cons] at hn
      rw [List.map_cons]
      rcases List.mem_cons.1 hm with rfl | hm
      · rw [if_pos rfl]
        congr 1
        refine (List.map_congr_left fun a ha => ?_).trans (List.map_id m)
        rw [if_neg fun e:kp a=kp x=>hn.1 (e▸List.mem_map_of_mem ha)]; rfl
      · rw [ih hn.2 hm,if_neg fun e:kp z=kp x=>hn.1 (e▸List.mem_map_of_mem hm)]
  exact this l hnd hx
theorem putB_new {l:List β} {x:β} (h:∀y∈l,kp y≠kp x):putB kp l x=l ++ [x]:=by
  unfold putB
  have:getB kp l (kp x)=none:=by
    unfold getB
    rw [List.find?_eq_none]
    exact fun y hy=>by simpa using h y hy
  rw [this]
end
end Go.AM
