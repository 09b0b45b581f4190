import Derived.Test.YtmboeclchocpcaaM11
import Derived.Test.YtmboeclchocpcaaM10
set_option linter.unusedSimpArgs false
set_option linter.unusedVariables false
namespace Go.AM
open Go
open AV renaming undef → uu
set_option maxRecDepth 20000
variable {gF:FuncId} {qF:List AV} {cvF:Int→Int→Int}
theorem siftDown_sizeF (hi first:Nat):∀(m root:Nat) (d:Array Int),hi - root≤m→(Sort.siftDown (ltC cvF) hi first root d).size=d.size:=by
  intro m
  induction m with
  | zero=>intro root d h; rw [Sort.siftDown,dif_pos (by omega)]
  | succ m ih =>
    intro root d h
    rw [Sort.siftDown]
    by_cases hc:2 * root + 1≥hi
    · rw [dif_pos hc]
    rw [dif_neg hc]
    split
    · split
      · rfl
      · split
        · rw [ih _ _ (by omega),swp_size]
        · rfl
    · split
      · rfl
      · rw [ih _ _ (by omega),swp_size]
def SrtTF (C:CallW) (gF:FuncId) (qF:List AV) (cvF:Int→Int→Int) (f:FuncId) (X:Array Int→Nat→Nat→Array Int):Prop:=∀(n:Nat) (d:Array Int) (a b:Nat) S H (K:AV→St→Prop),AskC C gF qF cvF n n S H→S[n]? = some (flat iA d)→a < b→b≤d.size→d.size≤2305843009213693952→K (.tup []) ⟨S.set n (flat iA (X d a b)),H⟩→C (.fn f) [.row (.stk n) 0 d.size d.size,.s (.int .i64 a),.s (.int .i64 b),.fn (.func gF) [] qF] ⟨S,H⟩ K
set_option maxHeartbeats 16000000 in
theorem reverseRange_specF {C:CallW} (hC:LeC C C) (P:Program):∀(n:Nat) (d:Array Int) (a b:Nat) S H (K:AV→St→Prop),AskC C gF qF cvF n n S H→S[n]? = some (flat iA d)→a < b→b≤d.size→d.size≤2305843009213693952→K (.tup []) ⟨S.set n (flat iA (Sort.reverseRange d a b)),H⟩→runL C P Cz1l [.row (.stk n) 0 d.size d.size,.s (.int .i64 a),.s (.int .i64 b),.fn (.func gF) [] qF] ⟨S,H⟩ K:=by
  intro n d a b S H K hAsk hS hab hbd hdl hK
  have hqu:=hAsk.1 _ (Nat.le_refl _)
  have hn:=slt hS
  unfold Sort.reverseRange at hK
  generalize hX:Sort.reverseLoop a (b - 1) d=X at hK
  have hw0:IntKind.i64.wrap ((b:Int) - 1)=((b - 1:Nat):Int):=by rw [wrap_i64 (by omega) (by omega)]; omega
  simp only [Cz1l,A_,simprocAttr,ne_eq,Uz1k.1,hw0]
  refine loop_rule hC (α:=Nat×Nat×Array Int) (fun x=>x.2.1 - x.1) (fun x=>[.row (.stk n) 0 d.size d.size,uu,uu,uu,uu,uu,uu,uu,.s (.int .i64 x.1),.s (.int .i64 x.2.1),uu,uu,uu,uu,uu,uu,uu,uu,uu,uu,uu,uu,uu,uu,uu,uu,uu,uu,uu,uu,uu,uu,uu,uu]) (fun x=>S.set n (flat iA x.2.2)) (fun _=>H) (fun x=>x.1≤d.size∧x.2.1 < d.size∧x.2.2.size=d.size∧X=Sort.reverseLoop x.1 x.2.1 x.2.2) (a,b - 1,d) ⟨by dsimp only; omega,by dsimp only; omega,rfl,hX.symm⟩ (by simp [keep,zm]) (by rw [sself hS]; simp) rfl (fun x _=>by simp [AV.under,AV.under.go,hn,hqu]) ?_
  rintro ⟨i,j,e⟩ ⟨hi,hj,hes,hinv⟩ ih
  dsimp only at hi hj hes hinv ih ⊢
  have hSe:(S.set n (flat iA e))[n]? = some (flat iA e):=sset hS
  rw [Sort.reverseLoop] at hinv
  by_cases hij:i < j
  case neg =>
    have h':¬((i:Int) < (j:Int)):=by omega
    rw [if_neg hij] at hinv
    rw [hinv] at hK
    simp only [A_,simprocAttr,ne_eq,Uz1k.1,h']
    exact hK
  have h':((i:Int) < (j:Int)):=by omega
  rw [if_pos hij] at hinv
  have hw1:IntKind.i64.wrap ((i:Int) + 1)=((i + 1:Nat):Int):=by rw [wrap_i64 (by omega) (by omega)]; omega
  have hw2:IntKind.i64.wrap ((j:Int) - 1)=((j - 1:Nat):Int):=by rw [wrap_i64 (by omega) (by omega)]; omega
  have x1:∀kk:IntKind,indexAddrL (.sl 1) (.row (.stk n) 0 d.size d.size) (.s (.int kk (i:Int)))=some (.ptr (.stk n) i):=fun kk=>ixi (by omega)
  have x2:∀kk:IntKind,indexAddrL (.sl 1) (.row (.stk n) 0 d.size d.size) (.s (.int kk (j:Int)))=some (.ptr (.stk n) j):=fun kk=>ixi (by omega)
  have r1:=ird (H:=H) hSe (i:=i) (by omega)
  have r2:=ird (H:=H) hSe (i:=j) (by omega)
  have w1:=iwr (H:=H) (x:=e[j]!) hSe (i:=i) (by omega)
  have hS2:(S.set n (flat iA (e.setIfInBounds i e[j]!)))[n]? = some (flat iA (e.setIfInBounds i e[j]!)):=sset hS
  have w2:=iwr (H:=H) (x:=e[i]!) hS2 (i:=j) (by simp; omega)
  rw [List.set_set] at w1 w2
  simp only [A_,simprocAttr,ne_eq,Uz1k.1,h',x1,x2,r1,r2,w1,w2,hw1,hw2]
  exact ih (i + 1,j - 1,Sort.swp e i j) _ _ _ (by dsimp only; omega) ⟨by dsimp only; omega,by dsimp only; omega,by rw [swp_size]; exact hes,hinv⟩ (by simp [keep,zm]) (by rw [List.take_of_length_le]; rfl; simp) rfl
set_option maxHeartbeats 16000000 in
theorem heapSort_specF {C:CallW} (hC:LeC C C) (P:Program) {c:Nat→FuncId} (h0:SiftSF C gF qF cvF (c 0)):∀(n:Nat) (d:Array Int) (a b:Nat) S H (K:AV→St→Prop),AskC C gF qF cvF n n S H→S[n]? = some (flat iA d)→a < b→b≤d.size→d.size≤2305843009213693952→K (.tup []) ⟨S.set n (flat iA (Sort.heapSort (ltC cvF) d a b)),H⟩→runL C P (Cz1w c) [.row (.stk n) 0 d.size d.size,.s (.int .i64 a),.s (.int .i64 b),.fn (.func gF) [] qF] ⟨S,H⟩ K:=by
  intro n d a b S H K hAsk hS hab hbd hdl hK
  have hqu:=hAsk.1 _ (Nat.le_refl _)
  have hn:=slt hS
  unfold Sort.heapSort at hK
  have hw0:IntKind.i64.wrap ((b:Int) - (a:Int))=((b - a:Nat):Int):=by rw [wrap_i64 (by omega) (by omega)]; omega
  have hw1:IntKind.i64.wrap (((b - a:Nat):Int) - 1)=((b - a - 1:Nat):Int):=by rw [wrap_i64 (by omega) (by omega)]; omega
  have hw2:IntKind.i64.wrap (((b - a - 1:Nat):Int).tdiv 2)=((((b - a - 1) / 2 + 1:Nat):Int) - 1):=by
    rw [show ((b - a - 1:Nat):Int).tdiv 2=(((b - a - 1) / 2:Nat):Int) from rfl,wrap_i64 (by omega) (by omega)]; omega
  generalize hhi:b - a=hi at *
  generalize hk0:(hi - 1) / 2 + 1=k0 at *
  simp only [Cz1w,A_,simprocAttr,ne_eq,(Uzy _).1,hw0,hw1,hw2]
  have hhs:a + hi≤d.size:=by omega
  have hk1:k0≤hi:=by omega
  refine loop_rule hC (α:=Nat×Array Int) (fun x=>x.1) (fun x=>[.row (.stk n) 0 d.size d.size,uu,uu,.fn (.func gF) [] qF,uu,uu,uu,uu,.s (.int .i64 a),.s (.int .i64 0),.s (.int .i64 hi),.s (.int .i64 ((x.1:Int) - 1)),uu,uu,uu,uu,uu,uu,uu,uu,uu,uu,uu,uu,uu,uu,uu,uu,uu,uu,uu,uu,uu,uu,uu,uu,uu,uu,uu,uu,uu,uu,uu,uu,uu,uu,uu,uu,uu,uu,uu,uu,uu,uu,uu,uu,uu,uu,uu,uu]) (fun x=>S.set n (flat iA x.2)) (fun _=>H) (fun x=>x.1≤k0∧x.2.size=d.size∧Sort.heapBuild (ltC cvF) hi a k0 d=Sort.heapBuild (ltC cvF) hi a x.1 x.2) (k0,d) ⟨Nat.le_refl _,rfl,rfl⟩ (by simp [keep,zm]) (by rw [sself hS]; simp) rfl (fun x _=>by simp [AV.under,AV.under.go,hn,hqu]) ?_
  rintro ⟨k,e⟩ ⟨hk,hes,hinv⟩ ih
  dsimp only at hk hes hinv ih ⊢
  have hSe:(S.set n (flat iA e))[n]? = some (flat iA e):=sset hS
  cases k with
  | succ k =>
    have h':((0:Int)≤((k + 1:Nat):Int) - 1)=True:=eq_true (by omega)
    have e1:(((k + 1:Nat):Int) - 1)=((k:Nat):Int):=by omega
    have h'':((0:Int)≤(k:Int))=True:=eq_true (by omega)
    have e2:IntKind.i64.wrap ((k:Int) - 1)=(k:Int) - 1:=wrap_i64 (by omega) (by omega)
    simp only [A_,simprocAttr,ne_eq,(Uzy _).1,h',e1,h'']
    rw [show d.size=e.size from hes.symm]
    refine h0 n e k hi a _ _ _ (by first | exact hAsk | exact hAsk.setn | exact hAsk.setn.setn | exact hAsk.setm | exact hAsk.setm.setm | exact hAsk.app) hSe (by omega) (by omega) (by omega) ?_
    rw [List.set_set]
    simp only [A_,simprocAttr,ne_eq,(Uzy _).1,e2]
    refine ih (k,Sort.siftDown (ltC cvF) hi a k e) _ _ _ (by dsimp only; omega) ⟨by dsimp only; omega,by rw [siftDown_sizeF hi a _ _ _ (Nat.le_refl _)]; exact hes,by rw [hinv]; rfl⟩ (by simp [keep,zm,hes]) (by rw [List.take_of_length_le]; simp) rfl
  | zero =>
    have h':((0:Int)≤((0:Nat):Int) - 1)=False:=eq_false (by omega)
    have h'':((0:Int)≤0 - 1)=False:=eq_false (by omega)
    have h3:((0:Int)≤-1)=False:=eq_false (by omega)
    rw [hinv] at hK
    simp only [Sort.heapBuild] at hK
    have hw3:IntKind.i64.wrap ((hi:Int) - 1)=((hi:Int) - 1):=wrap_i64 (by omega) (by omega)
    simp only [A_,simprocAttr,ne_eq,(Uzy _).1,h',h'',h3,hw3]
    clear ih hinv
    generalize hX:Sort.heapPop (ltC cvF) a hi e=X at hK
    refine loop_rule hC (α:=Nat×Array Int) (fun x=>x.1) (fun x=>[.row (.stk n) 0 d.size d.size,uu,uu,.fn (.func gF) [] qF,uu,uu,uu,uu,.s (.int .i64 a),.s (.int .i64 0),uu,uu,.s (.int .i64 ((x.1:Int) - 1)),uu,uu,uu,uu,uu,uu,uu,uu,uu,uu,uu,uu,uu,uu,uu,uu,uu,uu,uu,uu,uu,uu,uu,uu,uu,uu,uu,uu,uu,uu,uu,uu,uu,uu,uu,uu,uu,uu,uu,uu,uu,uu,uu,uu,uu,uu,uu]) (fun x=>S.set n (flat iA x.2)) (fun _=>H) (fun x=>x.1≤hi∧x.2.size=d.size∧X=Sort.heapPop (ltC cvF) a x.1 x.2) (hi,e) ⟨Nat.le_refl _,hes,hX.symm⟩ (by simp [keep,zm]) (by rw [List.take_of_length_le]; simp) rfl (fun x _=>by simp [AV.under,AV.under.go,hn,hqu]) ?_
    rintro ⟨k,g⟩ ⟨hk2,hgs,hinv⟩ ih
    dsimp only at hk2 hgs hinv ih ⊢
    have hSg:(S.set n (flat iA g))[n]? = some (flat iA g):=sset hS
    cases k with
    | zero =>
      rw [hinv] at hK
      simp only [A_,simprocAttr,ne_eq,(Uzy _).1,h',h'',h3]
      exact hK
    | succ k =>
      have h':((0:Int)≤((k + 1:Nat):Int) - 1)=True:=eq_true (by omega)
      have e1:(((k + 1:Nat):Int) - 1)=((k:Nat):Int):=by omega
      have h'':((0:Int)≤(k:Int))=True:=eq_true (by omega)
      have e2:IntKind.i64.wrap ((k:Int) - 1)=(k:Int) - 1:=wrap_i64 (by omega) (by omega)
      have e3:IntKind.i64.wrap ((a:Int) + (k:Int))=((a + k:Nat):Int):=by rw [wrap_i64 (by omega) (by omega)]; omega
      have x1:∀kk:IntKind,indexAddrL (.sl 1) (.row (.stk n) 0 d.size d.size) (.s (.int kk (a:Int)))=some (.ptr (.stk n) a):=fun kk=>ixi (by omega)
      have x2:∀kk:IntKind,indexAddrL (.sl 1) (.row (.stk n) 0 d.size d.size) (.s (.int kk ((a + k:Nat):Int)))=some (.ptr (.stk n) (a + k)):=fun kk=>ixi (by omega)
      have r1:=ird (H:=H) hSg (i:=a) (by omega)
      have r2:=ird (H:=H) hSg (i:=a + k) (by omega)
      have w1:=iwr (H:=H) (x:=g[a + k]!) hSg (i:=a) (by omega)
      have hS2:(S.set n (flat iA (g.setIfInBounds a g[a + k]!)))[n]? = some (flat iA (g.setIfInBounds a g[a + k]!)):=sset hS
      have w2:=iwr (H:=H) (x:=g[a]!) hS2 (i:=a + k) (by simp; omega)
      rw [List.set_set] at w1 w2
      simp only [A_,simprocAttr,ne_eq,(Uzy _).1,h',e1,h'',e3,x1,x2,r1,r2,w1,w2]
      rw [show d.size=(Sort.swp g a (a + k)).size by rw [swp_size]; exact hgs.symm]
      have hS3:(S.set n (flat iA (Sort.swp g a (a + k))))[n]? = some (flat iA (Sort.swp g a (a + k))):=sset hS
      refine h0 n (Sort.swp g a (a + k)) 0 k a _ _ _ (by first | exact hAsk | exact hAsk.setn | exact hAsk.setn.setn | exact hAsk.setm | exact hAsk.setm.setm | exact hAsk.app) hS3 (by rw [swp_size]; omega) (by omega) (by rw [swp_size]; omega) ?_
      rw [List.set_set]
      simp only [A_,simprocAttr,ne_eq,(Uzy _).1,e2]
      refine ih (k,Sort.siftDown (ltC cvF) k a 0 (Sort.swp g a (a + k))) _ _ _ (by dsimp only; omega) ⟨by dsimp only; omega,by rw [siftDown_sizeF k a _ _ _ (Nat.le_refl _),swp_size]; exact hgs,by rw [hinv]; rfl⟩ (by simp [keep,zm,swp_size,hgs]) (by rw [List.take_of_length_le]; simp) rfl
end Go.AM
namespace Go.AM
open Go
set_option maxRecDepth 20000
variable {gF:FuncId} {qF:List AV} {cvF:Int→Int→Int}
def Ord2SF (C:CallW) (gF:FuncId) (qF:List AV) (cvF:Int→Int→Int) (f:FuncId):Prop:=∀(n m:Nat) (d:Array Int) (a b sw:Nat) S H (K:AV→St→Prop),AskC C gF qF cvF n m S H→S[n]? = some (flat iA d)→S[m]? = some (swB sw)→a < d.size→b < d.size→sw≤1000→K (.tup [.s (.int .i64 (Sort.order2 (ltC cvF) d a b sw).1),.s (.int .i64 (Sort.order2 (ltC cvF) d a b sw).2.1)]) ⟨S.set m (swB (Sort.order2 (ltC cvF) d a b sw).2.2),H⟩→C (.fn f) [.row (.stk n) 0 d.size d.size,.s (.int .i64 a),.s (.int .i64 b),.ptr (.stk m) 0,.fn (.func gF) [] qF] ⟨S,H⟩ K
def MedSF (C:CallW) (gF:FuncId) (qF:List AV) (cvF:Int→Int→Int) (f:FuncId):Prop:=∀(n m:Nat) (d:Array Int) (a b c sw:Nat) S H (K:AV→St→Prop),AskC C gF qF cvF n m S H→n≠m→S[n]? = some (flat iA d)→S[m]? = some (swB sw)→a < d.size→b < d.size→c < d.size→sw≤900→K (.s (.int .i64 (Sort.median (ltC cvF) d a b c sw).1)) ⟨S.set m (swB (Sort.median (ltC cvF) d a b c sw).2),H⟩→C (.fn f) [.row (.stk n) 0 d.size d.size,.s (.int .i64 a),.s (.int .i64 b),.s (.int .i64 c),.ptr (.stk m) 0,.fn (.func gF) [] qF] ⟨S,H⟩ K
def MadSF (C:CallW) (gF:FuncId) (qF:List AV) (cvF:Int→Int→Int) (f:FuncId):Prop:=∀(n m:Nat) (d:Array Int) (a sw:Nat) S H (K:AV→St→Prop),AskC C gF qF cvF n m S H→n≠m→S[n]? = some (flat iA d)→S[m]? = some (swB sw)→1≤a→a + 1 < d.size→d.size≤2305843009213693952→sw≤900→K (.s (.int .i64 (Sort.medianAdjacent (ltC cvF) d a sw).1)) ⟨S.set m (swB (Sort.medianAdjacent (ltC cvF) d a sw).2),H⟩→C (.fn f) [.row (.stk n) 0 d.size d.size,.s (.int .i64 a),.ptr (.stk m) 0,.fn (.func gF) [] qF] ⟨S,H⟩ K
set_option maxHeartbeats 16000000 in
theorem order2_specF {C:CallW} (P:Program):∀(n m:Nat) (d:Array Int) (a b sw:Nat) S H (K:AV→St→Prop),AskC C gF qF cvF n m S H→S[n]? = some (flat iA d)→S[m]? = some (swB sw)→a < d.size→b < d.size→sw≤1000→K (.tup [.s (.int .i64 (Sort.order2 (ltC cvF) d a b sw).1),.s (.int .i64 (Sort.order2 (ltC cvF) d a b sw).2.1)]) ⟨S.set m (swB (Sort.order2 (ltC cvF) d a b sw).2.2),H⟩→runL C P Cz27 [.row (.stk n) 0 d.size d.size,.s (.int .i64 a),.s (.int .i64 b),.ptr (.stk m) 0,.fn (.func gF) [] qF] ⟨S,H⟩ K:=by
  intro n m d a b sw S H K hAsk hS hm ha hb hs hK
  unfold Sort.order2 at hK
  have x1:∀kk:IntKind,indexAddrL (.sl 1) (.row (.stk n) 0 d.size d.size) (.s (.int kk (a:Int)))=some (.ptr (.stk n) a):=fun kk=>ixi (by omega)
  have x2:∀kk:IntKind,indexAddrL (.sl 1) (.row (.stk n) 0 d.size d.size) (.s (.int kk (b:Int)))=some (.ptr (.stk n) b):=fun kk=>ixi (by omega)
  have r1:=ird (H:=H) hS (i:=a) (by omega)
  have r2:=ird (H:=H) hS (i:=b) (by omega)
  simp only [Cz27,A_,simprocAttr,ne_eq,Uz26.1,x1,x2,r1,r2]
  refine hAsk.2 _ _ _ _ (by first | exact fun _ _ _ _=>rfl | exact fun i _ h _=>List.getElem?_set_ne (Ne.symm h)) ?_
  cases hl:(ltC cvF) d[b]! d[a]! with
  | true =>
    have hlc:=ltC_t hl
    rw [hl,if_pos rfl] at hK
    have l1:=sw_load (H:=H) hm
    have s1:=sw_store (H:=H) (j:=sw + 1) hm
    have w1:IntKind.i64.wrap ((sw:Int) + 1)=((sw + 1:Nat):Int):=by rw [wrap_i64 (by omega) (by omega)]; omega
    simp only [A_,simprocAttr,ne_eq,Uz26.1,hlc,l1,s1,w1]
    exact hK
  | false =>
    have hlc:=ltC_f hl
    rw [hl,if_neg (by simp),sself hm] at hK
    simp only [A_,simprocAttr,ne_eq,Uz26.1,hlc]
    exact hK
theorem order2_ltF {d:Array Int} {a b sw N:Nat} (ha:a < N) (hb:b < N):(Sort.order2 (ltC cvF) d a b sw).1 < N∧(Sort.order2 (ltC cvF) d a b sw).2.1 < N∧(Sort.order2 (ltC cvF) d a b sw).2.2≤sw + 1:=by
  unfold Sort.order2
  split
  · exact ⟨hb,ha,Nat.le_refl _⟩
  · exact ⟨ha,hb,Nat.le_succ _⟩
set_option maxHeartbeats 16000000 in
theorem median_specF {C:CallW} (P:Program) {c:Nat→FuncId} (h0:Ord2SF C gF qF cvF (c 0)):∀(n m:Nat) (d:Array Int) (a b e sw:Nat) S H (K:AV→St→Prop),AskC C gF qF cvF n m S H→n≠m→S[n]? = some (flat iA d)→S[m]? = some (swB sw)→a < d.size→b < d.size→e < d.size→sw≤900→K (.s (.int .i64 (Sort.median (ltC cvF) d a b e sw).1)) ⟨S.set m (swB (Sort.median (ltC cvF) d a b e sw).2),H⟩→runL C P (Cz28 c) [.row (.stk n) 0 d.size d.size,.s (.int .i64 a),.s (.int .i64 b),.s (.int .i64 e),.ptr (.stk m) 0,.fn (.func gF) [] qF] ⟨S,H⟩ K:=by
  intro n m d a b e sw S H K hAsk hnm hS hm ha hb he hs hK
  unfold Sort.median at hK
  have ng:∀x,(S.set m x)[n]? = some (flat iA d):=fun x=>by rw [List.getElem?_set_ne (fun h=>hnm h.symm)]; exact hS
  simp only [Cz28,A_,simprocAttr,ne_eq,(Uz1n _).1]
  obtain ⟨q1,q2,q3⟩:=order2_ltF (cvF:=cvF) (d:=d) (sw:=sw) ha hb
  refine h0 n m d a b sw _ _ _ (by first | exact hAsk | exact hAsk.setn | exact hAsk.setn.setn | exact hAsk.setm | exact hAsk.setm.setm | exact hAsk.app) hS hm ha hb (by omega) ?_
  generalize Sort.order2 (ltC cvF) d a b sw=r1 at hK q1 q2 q3 ⊢
  obtain ⟨p1,b2,s2⟩:=r1
  dsimp only at *
  simp only [A_,simprocAttr,ne_eq,(Uz1n _).1]
  obtain ⟨u1,u2,u3⟩:=order2_ltF (cvF:=cvF) (d:=d) (sw:=s2) q2 he
  refine h0 n m d b2 e s2 _ _ _ (by first | exact hAsk | exact hAsk.setn | exact hAsk.setn.setn | exact hAsk.setm | exact hAsk.setm.setm | exact hAsk.app) (ng _) (sset hm) q2 he (by omega) ?_
  rw [List.set_set]
  generalize Sort.order2 (ltC cvF) d b2 e s2=r2 at hK u1 u2 u3 ⊢
  obtain ⟨y1,y2,y3⟩:=r2
  dsimp only at *
  simp only [A_,simprocAttr,ne_eq,(Uz1n _).1]
  refine h0 n m d p1 y1 y3 _ _ _ (by first | exact hAsk | exact hAsk.setn | exact hAsk.setn.setn | exact hAsk.setm | exact hAsk.setm.setm | exact hAsk.app) (ng _) (sset hm) q1 u1 (by omega) ?_
  rw [List.set_set]
  simp only [A_,simprocAttr,ne_eq,(Uz1n _).1]
  exact hK
theorem medianAdjacent_specF {C:CallW} (P:Program) {c:Nat→FuncId} (h0:MedSF C gF qF cvF (c 0)):∀(n m:Nat) (d:Array Int) (a sw:Nat) S H (K:AV→St→Prop),AskC C gF qF cvF n m S H→n≠m→S[n]? = some (flat iA d)→S[m]? = some (swB sw)→1≤a→a + 1 < d.size→d.size≤2305843009213693952→sw≤900→K (.s (.int .i64 (Sort.medianAdjacent (ltC cvF) d a sw).1)) ⟨S.set m (swB (Sort.medianAdjacent (ltC cvF) d a sw).2),H⟩→runL C P (Cz1g c) [.row (.stk n) 0 d.size d.size,.s (.int .i64 a),.ptr (.stk m) 0,.fn (.func gF) [] qF] ⟨S,H⟩ K:=by
  intro n m d a sw S H K hAsk hnm hS hm ha hb hd hs hK
  have w1:IntKind.i64.wrap ((a:Int) + 1)=((a + 1:Nat):Int):=by rw [wrap_i64 (by omega) (by omega)]; omega
  have w2:IntKind.i64.wrap ((a:Int) - 1)=((a - 1:Nat):Int):=by rw [wrap_i64 (by omega) (by omega)]; omega
  simp only [Cz1g,A_,simprocAttr,ne_eq,(Uz20 _).1,w1,w2]
  refine h0 n m d (a - 1) a (a + 1) sw _ _ _ (by first | exact hAsk | exact hAsk.setn | exact hAsk.setn.setn | exact hAsk.setm | exact hAsk.setm.setm | exact hAsk.app) hnm hS hm (by omega) (by omega) hb hs ?_
  simp only [A_,simprocAttr,ne_eq,(Uz20 _).1]
  exact hK
end Go.AM
namespace Go.AM
open Go
set_option maxRecDepth 20000
variable {gF:FuncId} {qF:List AV} {cvF:Int→Int→Int}
def ChpSF (C:CallW) (gF:FuncId) (qF:List AV) (cvF:Int→Int→Int) (f:FuncId):Prop:=∀(n:Nat) (d:Array Int) (a b:Nat) S H (K:AV→St→Prop),AskC C gF qF cvF n n S H→S[n]? = some (flat iA d)→a < b→b≤d.size→d.size≤2305843009213693952→K (.tup [.s (.int .i64 (Sort.choosePivot (ltC cvF) d a b).1),.s (.int .i64 (hI (Sort.choosePivot (ltC cvF) d a b).2))]) ⟨S,H⟩→C (.fn f) [.row (.stk n) 0 d.size d.size,.s (.int .i64 a),.s (.int .i64 b),.fn (.func gF) [] qF] ⟨S,H⟩ K
theorem order2_swF {d:Array Int} {a b sw:Nat}:(Sort.order2 (ltC cvF) d a b sw).2.2≤sw + 1:=by
  unfold Sort.order2
  split
  · exact Nat.le_refl _
  · exact Nat.le_succ _
theorem median_swF {d:Array Int} {a b c sw:Nat}:(Sort.median (ltC cvF) d a b c sw).2≤sw + 3:=by
  unfold Sort.median
  dsimp only
  have q1:=order2_swF (cvF:=cvF) (d:=d) (a:=a) (b:=b) (sw:=sw)
  have q2:=order2_swF (cvF:=cvF) (d:=d) (a:=(Sort.order2 (ltC cvF) d a b sw).2.1) (b:=c) (sw:=(Sort.order2 (ltC cvF) d a b sw).2.2)
  have q3:=order2_swF (cvF:=cvF) (d:=d) (a:=(Sort.order2 (ltC cvF) d a b sw).1) (b:=(Sort.order2 (ltC cvF) d (Sort.order2 (ltC cvF) d a b sw).2.1 c (Sort.order2 (ltC cvF) d a b sw).2.2).1) (sw:=(Sort.order2 (ltC cvF) d (Sort.order2 (ltC cvF) d a b sw).2.1 c (Sort.order2 (ltC cvF) d a b sw).2.2).2.2)
  omega
theorem median_ltF {d:Array Int} {a b c sw N:Nat} (ha:a < N) (hb:b < N) (hc:c < N):(Sort.median (ltC cvF) d a b c sw).1 < N:=by
  unfold Sort.median
  dsimp only
  obtain ⟨q1,q2,_⟩:=order2_ltF (cvF:=cvF) (d:=d) (sw:=sw) ha hb
  obtain ⟨u1,u2,_⟩:=order2_ltF (cvF:=cvF) (d:=d) (sw:=(Sort.order2 (ltC cvF) d a b sw).2.2) q2 hc
  exact (order2_ltF q1 u1).2.1
set_option maxHeartbeats 16000000 in
theorem choosePivot_specF {C:CallW} (P:Program) {c:Nat→FuncId} (h0:MadSF C gF qF cvF (c 0)) (h1:MedSF C gF qF cvF (c 1)):∀(n:Nat) (d:Array Int) (a b:Nat) S H (K:AV→St→Prop),AskC C gF qF cvF n n S H→S[n]? = some (flat iA d)→a < b→b≤d.size→d.size≤2305843009213693952→K (.tup [.s (.int .i64 (Sort.choosePivot (ltC cvF) d a b).1),.s (.int .i64 (hI (Sort.choosePivot (ltC cvF) d a b).2))]) ⟨S,H⟩→runL C P (Cz13 c) [.row (.stk n) 0 d.size d.size,.s (.int .i64 a),.s (.int .i64 b),.fn (.func gF) [] qF] ⟨S,H⟩ K:=by
  intro n d a b S H K hAsk hS hab hb hd hK
  have hn:=slt hS
  have hnm:n≠S.length:=by omega
  have hw0:IntKind.i64.wrap ((b:Int) - (a:Int))=((b - a:Nat):Int):=by rw [wrap_i64 (by omega) (by omega)]; omega
  have hq:IntKind.i64.wrap (((b - a:Nat):Int).tdiv 4)=(((b - a) / 4:Nat):Int):=by
    rw [show ((b - a:Nat):Int).tdiv 4=(((b - a) / 4:Nat):Int) from rfl,wrap_i64 (by omega) (by omega)]
  unfold Sort.choosePivot at hK
  dsimp only at hK
  have hlb:b - a + a=b:=by omega
  generalize hl:b - a=l at *
  have hq4:l / 4 * 4≤l:=Nat.div_mul_le_self l 4
  have hq8:8≤l→2≤l / 4:=fun h=>by omega
  generalize hqq:l / 4=q at *
  have hm1:IntKind.i64.wrap ((q:Int) * 1)=((q * 1:Nat):Int):=by rw [wrap_i64 (by omega) (by omega)]; omega
  have hm2:IntKind.i64.wrap ((q:Int) * 2)=((q * 2:Nat):Int):=by rw [wrap_i64 (by omega) (by omega)]; omega
  have hm3:IntKind.i64.wrap ((q:Int) * 3)=((q * 3:Nat):Int):=by rw [wrap_i64 (by omega) (by omega)]; omega
  have ha1:IntKind.i64.wrap ((a:Int) + ((q * 1:Nat):Int))=((a + q * 1:Nat):Int):=by rw [wrap_i64 (by omega) (by omega)]; omega
  have ha2:IntKind.i64.wrap ((a:Int) + ((q * 2:Nat):Int))=((a + q * 2:Nat):Int):=by rw [wrap_i64 (by omega) (by omega)]; omega
  have ha3:IntKind.i64.wrap ((a:Int) + ((q * 3:Nat):Int))=((a + q * 3:Nat):Int):=by rw [wrap_i64 (by omega) (by omega)]; omega
  have fin1:∀(p sw:Nat) (K2:AV→St→Prop),(K2 (.tup [.s (.int .i64 p),.s (.int .i64 (hI (if sw=0 then .increasing else if sw=12 then .decreasing else .unknown)))]) ⟨S,H⟩→True):=fun _ _ _ _=>trivial
  clear fin1
  have hal:∀x y:Nat,(S ++ [swB x]).set S.length (swB y)=S ++ [swB y]:=fun _ _=>sapp
  by_cases h8:8≤l
  case neg =>
    have h8':¬((8:Int)≤(l:Int)):=by omega
    rw [if_neg h8] at hK
    simp only [Cz13,A_,simprocAttr,ne_eq,(Uzf _).1,hw0,hq,hm1,hm2,hm3,ha1,ha2,ha3,h8']
    exact hK
  have h8':((8:Int)≤(l:Int)):=by omega
  rw [if_pos h8] at hK
  have tailK:∀(p sw:Nat),(p,sw)=(p,sw)→True:=fun _ _ _=>trivial
  clear tailK
  by_cases h50:50≤l
  case neg =>
    have h50':¬((50:Int)≤(l:Int)):=by omega
    rw [if_neg h50] at hK
    simp only [Cz13,A_,simprocAttr,ne_eq,(Uzf _).1,hw0,hq,hm1,hm2,hm3,ha1,ha2,ha3,h8',h50']
    refine h1 n S.length d _ _ _ 0 _ _ _ (by first | exact hAsk | exact hAsk.setn | exact hAsk.setn.setn | exact hAsk.setm | exact hAsk.setm.setm | exact hAsk.app) hnm (sappg hS) sappl (by omega) (by omega) (by omega) (by omega) ?_
    have hsw:=median_swF (cvF:=cvF) (d:=d) (a:=a + q * 1) (b:=a + q * 2) (c:=a + q * 3) (sw:=0)
    generalize Sort.median (ltC cvF) d (a + q * 1) (a + q * 2) (a + q * 3) 0=r at hK hsw ⊢
    obtain ⟨p,sw⟩:=r
    dsimp only at hK hsw ⊢
    rw [sapp]
    have hl1:=sw_load (S:=S ++ [swB sw]) (H:=H) (m:=S.length) (k:=sw) sappl
    by_cases e0:sw=0
    · subst e0
      simp only [A_,simprocAttr,ne_eq,(Uzf _).1,hl1]
      exact hK
    rw [if_neg e0] at hK
    by_cases e12:sw=12
    · subst e12
      simp only [A_,simprocAttr,ne_eq,(Uzf _).1,hl1]
      exact hK
    rw [if_neg e12] at hK
    have e0':¬((sw:Int)=0):=by omega
    have e12':¬((sw:Int)=12):=by omega
    simp only [A_,simprocAttr,ne_eq,(Uzf _).1,hl1,e0',e12']
    exact hK
  have h50':((50:Int)≤(l:Int)):=by omega
  rw [if_pos h50] at hK
  simp only [Cz13,A_,simprocAttr,ne_eq,(Uzf _).1,hw0,hq,hm1,hm2,hm3,ha1,ha2,ha3,h8',h50']
  refine h0 n S.length d _ 0 _ _ _ (by first | exact hAsk | exact hAsk.setn | exact hAsk.setn.setn | exact hAsk.setm | exact hAsk.setm.setm | exact hAsk.app) hnm (sappg hS) sappl (by omega) (by omega) hd (by omega) ?_
  rw [sapp]
  have g1:=median_swF (cvF:=cvF) (d:=d) (a:=a + q * 1 - 1) (b:=a + q * 1) (c:=a + q * 1 + 1) (sw:=0)
  have t1:=median_ltF (cvF:=cvF) (d:=d) (sw:=0) (a:=a + q * 1 - 1) (b:=a + q * 1) (c:=a + q * 1 + 1) (N:=d.size) (by omega) (by omega) (by omega)
  unfold Sort.medianAdjacent at hK ⊢
  generalize Sort.median (ltC cvF) d (a + q * 1 - 1) (a + q * 1) (a + q * 1 + 1) 0=r1 at hK g1 t1 ⊢
  obtain ⟨i1,s1⟩:=r1
  dsimp only at hK g1 t1 ⊢
  simp only [A_,simprocAttr,ne_eq,(Uzf _).1]
  refine h0 n S.length d _ s1 _ _ _ (by first | exact hAsk | exact hAsk.setn | exact hAsk.setn.setn | exact hAsk.setm | exact hAsk.setm.setm | exact hAsk.app) hnm (sappg hS) sappl (by omega) (by omega) hd (by omega) ?_
  rw [sapp]
  have g2:=median_swF (cvF:=cvF) (d:=d) (a:=a + q * 2 - 1) (b:=a + q * 2) (c:=a + q * 2 + 1) (sw:=s1)
  have t2:=median_ltF (cvF:=cvF) (d:=d) (sw:=s1) (a:=a + q * 2 - 1) (b:=a + q * 2) (c:=a + q * 2 + 1) (N:=d.size) (by omega) (by omega) (by omega)
  unfold Sort.medianAdjacent
  generalize Sort.median (ltC cvF) d (a + q * 2 - 1) (a + q * 2) (a + q * 2 + 1) s1=r2 at hK g2 t2 ⊢
  obtain ⟨i2,s2⟩:=r2
  dsimp only at hK g2 t2 ⊢
  simp only [A_,simprocAttr,ne_eq,(Uzf _).1]
  refine h0 n S.length d _ s2 _ _ _ (by first | exact hAsk | exact hAsk.setn | exact hAsk.setn.setn | exact hAsk.setm | exact hAsk.setm.setm | exact hAsk.app) hnm (sappg hS) sappl (by omega) (by omega) hd (by omega) ?_
  rw [sapp]
  have g3:=median_swF (cvF:=cvF) (d:=d) (a:=a + q * 3 - 1) (b:=a + q * 3) (c:=a + q * 3 + 1) (sw:=s2)
  have t3:=median_ltF (cvF:=cvF) (d:=d) (sw:=s2) (a:=a + q * 3 - 1) (b:=a + q * 3) (c:=a + q * 3 + 1) (N:=d.size) (by omega) (by omega) (by omega)
  unfold Sort.medianAdjacent
  generalize Sort.median (ltC cvF) d (a + q * 3 - 1) (a + q * 3) (a + q * 3 + 1) s2=r3 at hK g3 t3 ⊢
  obtain ⟨i3,s3⟩:=r3
  dsimp only at hK g3 t3 ⊢
  simp only [A_,simprocAttr,ne_eq,(Uzf _).1]
  refine h1 n S.length d i1 i2 i3 s3 _ _ _ (by first | exact hAsk | exact hAsk.setn | exact hAsk.setn.setn | exact hAsk.setm | exact hAsk.setm.setm | exact hAsk.app) hnm (sappg hS) sappl t1 t2 t3 (by omega) ?_
  have hsw:=median_swF (cvF:=cvF) (d:=d) (a:=i1) (b:=i2) (c:=i3) (sw:=s3)
  generalize Sort.median (ltC cvF) d i1 i2 i3 s3=r at hK hsw ⊢
  obtain ⟨p,sw⟩:=r
  dsimp only at hK hsw ⊢
  rw [sapp]
  have hl1:=sw_load (S:=S ++ [swB sw]) (H:=H) (m:=S.length) (k:=sw) sappl
  by_cases e0:sw=0
  · subst e0
    simp only [A_,simprocAttr,ne_eq,(Uzf _).1,hl1]
    exact hK
  rw [if_neg e0] at hK
  by_cases e12:sw=12
  · subst e12
    simp only [A_,simprocAttr,ne_eq,(Uzf _).1,hl1]
    exact hK
  rw [if_neg e12] at hK
  have e0':¬((sw:Int)=0):=by omega
  have e12':¬((sw:Int)=12):=by omega
  simp only [A_,simprocAttr,ne_eq,(Uzf _).1,hl1,e0',e12']
  exact hK
end Go.AM
namespace Go.AM
open Go
open AV renaming undef → uu
set_option maxRecDepth 20000
variable {gF:FuncId} {qF:List AV} {cvF:Int→Int→Int}
set_option maxHeartbeats 16000000 in
theorem breakPatterns_specF {C:CallW} (hC:LeC C C) (P:Program) {c:Nat→FuncId} (h0:NpS C (c 0)) (h1:XorS C (c 1)):∀(n:Nat) (d:Array Int) (a b:Nat) S H (K:AV→St→Prop),AskC C gF qF cvF n n S H→S[n]? = some (flat iA d)→a < b→b≤d.size→d.size≤2305843009213693952→K (.tup []) ⟨S.set n (flat iA (Sort.breakPatterns d a b)),H⟩→runL C P (Cz17 c) [.row (.stk n) 0 d.size d.size,.s (.int .i64 a),.s (.int .i64 b),.fn (.func gF) [] qF] ⟨S,H⟩ K:=by
  intro n d a b S H K hAsk hS hab hbd hdl hK
  have hn:=slt hS
  have hw0:IntKind.i64.wrap ((b:Int) - (a:Int))=((b - a:Nat):Int):=by rw [wrap_i64 (by omega) (by omega)]; omega
  have hq:IntKind.i64.wrap (((b - a:Nat):Int).tdiv 4)=(((b - a) / 4:Nat):Int):=by
    rw [show ((b - a:Nat):Int).tdiv 4=(((b - a) / 4:Nat):Int) from rfl,wrap_i64 (by omega) (by omega)]
  unfold Sort.breakPatterns at hK
  dsimp only at hK
  have hlb:b - a + a=b:=by omega
  generalize hl:b - a=l at *
  by_cases h8:8≤l
  case neg =>
    have h8':¬((8:Int)≤(l:Int)):=by omega
    rw [if_neg h8,sself hS] at hK
    simp only [Cz17,A_,simprocAttr,ne_eq,(Uzq _).1,hw0,h8']
    exact hK
  have h8':((8:Int)≤(l:Int)):=by omega
  rw [if_pos h8] at hK
  have hcl:IntKind.u64.wrap (l:Int)=(l:Int):=wu64 (by omega)
  have hul:((UInt64.ofNat l).toNat:Int)=(l:Int):=by rw [UInt64.toNat_ofNat']; omega
  have hst:storeL 1 (.ptr (.stk S.length) 0) (.s (.int .u64 l)) ⟨S ++ [[.s (.int .u64 0)]],H⟩=some ⟨S ++ [rB (UInt64.ofNat l)],H⟩:=by
    rw [show (AV.s (.int .u64 (l:Int))) = .s (.int .u64 ((UInt64.ofNat l).toNat:Int)) by rw [hul]]
    have:=rB_store (S:=S ++ [[.s (.int .u64 0)]]) (H:=H) (m:=S.length) (r:=0) (j:=UInt64.ofNat l) (by simp [rB])
    rw [this,sapp]
  simp only [Cz17,A_,simprocAttr,ne_eq,(Uzq _).1,hw0,h8',convL,hcl,hst]
  refine h0 l (by omega) _ _ _ ?_
  have hq2:2≤l / 4:=by omega
  have hq4:l / 4 * 4≤l:=Nat.div_mul_le_self l 4
  generalize l / 4=q at hq hq2 hq4 hK ⊢
  have b1:IntKind.i64.wrap ((q:Int) * 2)=((q * 2:Nat):Int):=by rw [wrap_i64 (by omega) (by omega)]; omega
  have b2:IntKind.i64.wrap ((a:Int) + ((q * 2:Nat):Int))=((a + q * 2:Nat):Int):=by rw [wrap_i64 (by omega) (by omega)]; omega
  obtain ⟨A2,hA2⟩:∃A2,a + q * 2=A2:=⟨_,rfl⟩
  obtain ⟨I0,hI0⟩:∃I0,A2 - 1=I0:=⟨_,rfl⟩
  obtain ⟨T,hT⟩:∃T,A2 + 1=T:=⟨_,rfl⟩
  rw [hA2] at b2 hK
  rw [hI0] at hK
  have b3:IntKind.i64.wrap ((A2:Int) - 1)=(I0:Int):=by rw [wrap_i64 (by omega) (by omega)]; omega
  have b4:IntKind.i64.wrap ((A2:Int) + 1)=(T:Int):=by rw [wrap_i64 (by omega) (by omega)]; omega
  have hp:=bitsLen_pow (x:=l) (by omega)
  have hp0:=Nat.two_pow_pos (Sort.bitsLen l)
  rw [show (1 <<< Sort.bitsLen l:Nat)=2 ^ Sort.bitsLen l by rw [Nat.shiftLeft_eq,Nat.one_mul]] at hK
  generalize hM:2 ^ Sort.bitsLen l=M at *
  have b5:IntKind.u64.wrap ((M:Int) - 1)=((M - 1:Nat):Int):=by rw [show ((M:Int) - 1)=((M - 1:Nat):Int) by omega]; exact wu64 (by omega)
  simp only [A_,simprocAttr,ne_eq,(Uzq _).1,hq,b1,b2,b3]
  generalize hX:(Sort.breakStep a l M (Sort.breakStep a l M (Sort.breakStep a l M (UInt64.ofNat l,d) I0) (I0 + 1)) (I0 + 2)).2=X at hK
  have hX2:X=remS a l M 3 I0 (UInt64.ofNat l,d):=hX.symm
  clear hX
  refine loop_rule hC (α:=Nat×Nat×UInt64×Array Int) (fun x=>x.1) (fun x=>[.row (.stk n) 0 d.size d.size,.s (.int .i64 a),uu,uu,uu,uu,uu,uu,.s (.int .i64 l),.ptr (.stk S.length) 0,.s (.int .u64 M),.s (.int .i64 x.2.1),uu,uu,uu,uu,uu,uu,uu,uu,uu,uu,uu,uu,uu,uu,uu,uu,uu,uu,uu,uu,uu,uu,uu,uu,uu,uu,uu,uu,uu,uu,uu,uu,uu,uu,uu,uu,uu,uu,uu,uu,uu,uu,uu,uu,uu,uu,uu,uu,uu,uu,uu,uu,uu,uu,uu]) (fun x=>S.set n (flat iA x.2.2.2) ++ [rB x.2.2.1]) (fun _=>H) (fun x=>x.1 + x.2.1=I0 + 3∧x.1≤3∧x.2.2.2.size=d.size∧X=remS a l M x.1 x.2.1 x.2.2) (3,I0,UInt64.ofNat l,d) ⟨by dsimp only; omega,Nat.le_refl _,rfl,hX2⟩ (by simp [keep,zm]) (by rw [sself hS,List.take_of_length_le]; simp) rfl (fun x _=>by simp [AV.under,AV.under.go]; omega) ?_
  rintro ⟨k,ix,r,e⟩ ⟨hki,hk3,hes,hinv⟩ ih
  dsimp only at hki hk3 hes hinv ih ⊢
  have hSe:(S.set n (flat iA e) ++ [rB r])[n]? = some (flat iA e):=sappg (sset hS)
  cases k with
  | zero =>
    have h':¬((ix:Int)≤(T:Int)):=by omega
    rw [hinv] at hK
    simp only [A_,simprocAttr,ne_eq,(Uzq _).1,hq,b1,b2,b4,h']
    rw [List.take_left' (by simp)]
    exact hK
  | succ k =>
    have h':((ix:Int)≤(T:Int)):=by omega
    have hwi:IntKind.i64.wrap ((ix:Int) + 1)=((ix + 1:Nat):Int):=by rw [wrap_i64 (by omega) (by omega)]; omega
    have hSr:(S.set n (flat iA e) ++ [rB r])[S.length]? = some (rB r):=by simp
    simp only [A_,simprocAttr,ne_eq,(Uzq _).1,hq,b1,b2,b4,h']
    refine h1 S.length r _ _ _ hSr ?_
    have hset:∀y,(S.set n (flat iA e) ++ [rB r]).set S.length y=S.set n (flat iA e) ++ [y]:=fun y=>by simp
    rw [hset]
    obtain ⟨r2,hr2⟩:∃r2,Sort.xorNext r=r2:=⟨_,rfl⟩
    rw [hr2]
    have hand:=and64 r2 (m:=M - 1) (by omega)
    have hol:r2.toNat &&& (M - 1)≤M - 1:=Nat.and_le_right
    rw [remS] at hinv
    unfold Sort.breakStep at hinv
    rw [hr2] at hinv
    dsimp only at hinv
    generalize r2.toNat &&& (M - 1)=o at hand hol hinv
    have hco:IntKind.i64.wrap (o:Int)=(o:Int):=wrap_i64 (by omega) (by omega)
    simp only [A_,simprocAttr,ne_eq,(Uzq _).1,b5,hand,convL,hco]
    by_cases hol2:l≤o
    · have ho':((l:Int)≤(o:Int)):=by omega
      rw [if_pos hol2] at hinv
      have hwo:IntKind.i64.wrap ((o:Int) - (l:Int))=((o - l:Nat):Int):=by rw [wrap_i64 (by omega) (by omega)]; omega
      have hao:IntKind.i64.wrap ((a:Int) + ((o - l:Nat):Int))=((a + (o - l):Nat):Int):=by rw [wrap_i64 (by omega) (by omega)]; omega
      have hSe2:∀y,(S.set n (flat iA e) ++ [y])[n]? = some (flat iA e):=fun y=>sappg (sset hS)
      have x1:∀kk:IntKind,indexAddrL (.sl 1) (.row (.stk n) 0 d.size d.size) (.s (.int kk (ix:Int)))=some (.ptr (.stk n) ix):=fun kk=>ixi (by omega)
      have x2:∀kk:IntKind,indexAddrL (.sl 1) (.row (.stk n) 0 d.size d.size) (.s (.int kk ((a + (o - l):Nat):Int)))=some (.ptr (.stk n) (a + (o - l))):=fun kk=>ixi (by omega)
      have r1:=ird (H:=H) (hSe2 (rB r2)) (i:=ix) (by omega)
      have r3:=ird (H:=H) (hSe2 (rB r2)) (i:=a + (o - l)) (by omega)
      have w1:=iwr (H:=H) (x:=e[a + (o - l)]!) (hSe2 (rB r2)) (i:=ix) (by omega)
      have hs1:∀z:Array Int,(S.set n (flat iA e) ++ [rB r2]).set n (flat iA z)=S.set n (flat iA z) ++ [rB r2]:=fun z=>by rw [List.set_append_left _ _ (by simp; exact hn),List.set_set]
      rw [hs1] at w1
      have hS2:(S.set n (flat iA (e.setIfInBounds ix e[a + (o - l)]!)) ++ [rB r2])[n]? = some (flat iA (e.setIfInBounds ix e[a + (o - l)]!)):=sappg (sset hS)
      have w2:=iwr (H:=H) (x:=e[ix]!) hS2 (i:=a + (o - l)) (by simp; omega)
      have hs2:∀z y:Array Int,(S.set n (flat iA y) ++ [rB r2]).set n (flat iA z)=S.set n (flat iA z) ++ [rB r2]:=fun z y=>by rw [List.set_append_left _ _ (by simp; exact hn),List.set_set]
      rw [hs2] at w2
      simp only [A_,simprocAttr,ne_eq,(Uzq _).1,ho',hwo,hao,x1,x2,r1,r3,w1,w2,hwi]
      exact ih (k,ix + 1,r2,Sort.swp e ix (a + (o - l))) _ _ _ (by dsimp only; omega) ⟨by dsimp only; omega,by dsimp only; omega,by rw [swp_size]; exact hes,hinv⟩ (by simp [keep,zm]) (by rw [List.take_of_length_le]; rfl; simp) rfl
    · have ho':¬((l:Int)≤(o:Int)):=by omega
      rw [if_neg hol2] at hinv
      have hwo:True:=trivial
      have hao:IntKind.i64.wrap ((a:Int) + (o:Int))=((a + o:Nat):Int):=by rw [wrap_i64 (by omega) (by omega)]; omega
      have hSe2:∀y,(S.set n (flat iA e) ++ [y])[n]? = some (flat iA e):=fun y=>sappg (sset hS)
      have x1:∀kk:IntKind,indexAddrL (.sl 1) (.row (.stk n) 0 d.size d.size) (.s (.int kk (ix:Int)))=some (.ptr (.stk n) ix):=fun kk=>ixi (by omega)
      have x2:∀kk:IntKind,indexAddrL (.sl 1) (.row (.stk n) 0 d.size d.size) (.s (.int kk ((a + o:Nat):Int)))=some (.ptr (.stk n) (a + o)):=fun kk=>ixi (by omega)
      have r1:=ird (H:=H) (hSe2 (rB r2)) (i:=ix) (by omega)
      have r3:=ird (H:=H) (hSe2 (rB r2)) (i:=a + o) (by omega)
      have w1:=iwr (H:=H) (x:=e[a + o]!) (hSe2 (rB r2)) (i:=ix) (by omega)
      have hs1:∀z:Array Int,(S.set n (flat iA e) ++ [rB r2]).set n (flat iA z)=S.set n (flat iA z) ++ [rB r2]:=fun z=>by rw [List.set_append_left _ _ (by simp; exact hn),List.set_set]
      rw [hs1] at w1
      have hS2:(S.set n (flat iA (e.setIfInBounds ix e[a + o]!)) ++ [rB r2])[n]? = some (flat iA (e.setIfInBounds ix e[a + o]!)):=sappg (sset hS)
      have w2:=iwr (H:=H) (x:=e[ix]!) hS2 (i:=a + o) (by simp; omega)
      have hs2:∀z y:Array Int,(S.set n (flat iA y) ++ [rB r2]).set n (flat iA z)=S.set n (flat iA z) ++ [rB r2]:=fun z y=>by rw [List.set_append_left _ _ (by simp; exact hn),List.set_set]
      rw [hs2] at w2
      simp only [A_,simprocAttr,ne_eq,(Uzq _).1,ho',hwo,hao,x1,x2,r1,r3,w1,w2,hwi]
      exact ih (k,ix + 1,r2,Sort.swp e ix (a + o)) _ _ _ (by dsimp only; omega) ⟨by dsimp only; omega,by dsimp only; omega,by rw [swp_size]; exact hes,hinv⟩ (by simp [keep,zm]) (by rw [List.take_of_length_le]; rfl; simp) rfl
end Go.AM
namespace Go.AM
open Go
open AV renaming undef → uu
set_option maxRecDepth 20000
variable {gF:FuncId} {qF:List AV} {cvF:Int→Int→Int}
set_option maxHeartbeats 16000000 in
theorem y23q2_loop {C:CallW} (hC:LeC C C) (P:Program) {n a j N n0:Nat} {e:Array Int} {S:List (List AV)} {H:List HObj} {is:List Item} {K:KC} (hAsk:AskC C gF qF cvF n n S H) (hS:S[n]? = some (flat iA e)) (hn0:n0=S.length) (hN:e.size=N) (ha:a < N) (hj:j < N) (hl:N≤2305843009213693952):∀(i:Nat) (fr:Fr),i≤j + 2→keep (zm false [0,2,2,1,6,2,77]) fr=[.row (.stk n) 0 N N,.s (.int .i64 a),uu,uu,.fn (.func gF) [] qF,uu,uu,uu,uu,uu,uu,.s (.int .i64 (i:Nat)),.s (.int .i64 (j:Nat)),uu,uu,uu,uu,uu,uu,uu,uu,uu,uu,uu,uu,uu,uu,uu,uu,uu,uu,uu,uu,uu,uu,uu,uu,uu,uu,uu,uu,uu,uu,uu,uu,uu,uu,uu,uu,uu,uu,uu,uu,uu,uu,uu,uu,uu,uu,uu,uu,uu,uu,uu,uu,uu,uu,uu,uu,uu,uu,uu,uu,uu,uu,uu,uu,uu,uu,uu,uu,uu,uu,uu,uu,uu,uu,uu,uu,uu]→(∀fr',keep (zm false [0,2,2,1,6,2,77]) fr'=[.row (.stk n) 0 N N,.s (.int .i64 a),uu,uu,.fn (.func gF) [] qF,uu,uu,uu,uu,uu,uu,.s (.int .i64 (Sort.scanUp (fun x => !(ltC cvF) e[a]! x) e j i:Nat)),.s (.int .i64 (j:Nat)),uu,uu,uu,uu,uu,uu,uu,uu,uu,uu,uu,uu,uu,uu,uu,uu,uu,uu,uu,uu,uu,uu,uu,uu,uu,uu,uu,uu,uu,uu,uu,uu,uu,uu,uu,uu,uu,uu,uu,uu,uu,uu,uu,uu,uu,uu,uu,uu,uu,uu,uu,uu,uu,uu,uu,uu,uu,uu,uu,uu,uu,uu,uu,uu,uu,uu,uu,uu,uu,uu,uu,uu,uu,uu,uu,uu,uu]→nxt C P false is fr' ⟨S,H⟩ K)→runLp C P false (zm false [0,2,2,1,6,2,77]) y23k2 n0 (.blk 2 :: is) fr ⟨S,H⟩ K:=by
  intro i fr hi hk hX
  generalize hR:Sort.scanUp (fun x => !(ltC cvF) e[a]! x) e j i=R at hX
  subst hn0
  have hqu:=hAsk.1 _ (Nat.le_refl _)
  have hn:=slt hS
  refine loop_rule hC (α:=Nat) (fun x=>j + 2 - x) (fun x=>[.row (.stk n) 0 N N,.s (.int .i64 a),uu,uu,.fn (.func gF) [] qF,uu,uu,uu,uu,uu,uu,.s (.int .i64 (x:Nat)),.s (.int .i64 (j:Nat)),uu,uu,uu,uu,uu,uu,uu,uu,uu,uu,uu,uu,uu,uu,uu,uu,uu,uu,uu,uu,uu,uu,uu,uu,uu,uu,uu,uu,uu,uu,uu,uu,uu,uu,uu,uu,uu,uu,uu,uu,uu,uu,uu,uu,uu,uu,uu,uu,uu,uu,uu,uu,uu,uu,uu,uu,uu,uu,uu,uu,uu,uu,uu,uu,uu,uu,uu,uu,uu,uu,uu,uu,uu,uu,uu,uu,uu]) (fun _=>S) (fun _=>H) (fun x=>x≤j + 2∧R=Sort.scanUp (fun x => !(ltC cvF) e[a]! x) e j x) i ⟨hi,hR.symm⟩ hk (by rw [List.take_of_length_le (Nat.le_refl _)]) rfl (fun x _=>by simp [AV.under,AV.under.go,hn,hqu]) ?_
  rintro x ⟨hx,hinv⟩ ih
  by_cases hxj:x≤j
  case neg =>
    have hlt:¬((x:Int)≤(j:Int)):=by omega
    rw [Sort.scanUp,if_neg (by rw [Bool.and_eq_true,decide_eq_true_eq]; exact fun h=>hxj h.1)] at hinv
    rw [hinv] at hX
    simp only [Czb,A_,simprocAttr,ne_eq,Uzd.1,hlt]
    exact hX _ (by simp [keep,zm])
  have hlt:((x:Int)≤(j:Int)):=by omega
  have hw1:IntKind.i64.wrap ((x:Int) + 1)=((x + 1:Nat):Int):=by rw [wrap_i64 (by omega) (by omega)]; omega
  have x1:∀kk:IntKind,indexAddrL (.sl 1) (.row (.stk n) 0 N N) (.s (.int kk (x:Int)))=some (.ptr (.stk n) x):=fun kk=>ixi (by omega)
  have x2:∀kk:IntKind,indexAddrL (.sl 1) (.row (.stk n) 0 N N) (.s (.int kk (a:Int)))=some (.ptr (.stk n) a):=fun kk=>ixi (by omega)
  have r1:=ird (H:=H) hS (i:=x) (by omega)
  have r2:=ird (H:=H) hS (i:=a) (by omega)
  simp only [Czb,A_,simprocAttr,ne_eq,Uzd.1,hlt,x1,x2,r1,r2]
  refine hAsk.2 _ _ _ _ (by first | exact fun _ _ _ _=>rfl | exact fun i _ h _=>List.getElem?_set_ne (Ne.symm h)) ?_
  cases hlk:(ltC cvF) e[a]! e[x]! with
  | true =>
    have hlc:=ltC_t hlk
    rw [Sort.scanUp,if_neg (by rw [Bool.and_eq_true,hlk]; simp)] at hinv
    rw [hinv] at hX
    simp only [Czb,A_,simprocAttr,ne_eq,Uzd.1,hlc]
    exact hX _ (by simp [keep,zm])
  | false =>
    have hlc:=ltC_f hlk
    rw [Sort.scanUp,if_pos (by rw [Bool.and_eq_true,hlk]; exact ⟨decide_eq_true hxj,rfl⟩)] at hinv
    simp only [Czb,A_,simprocAttr,ne_eq,Uzd.1,hlc,hw1]
    exact ih (x + 1) _ _ _ (by omega) ⟨by omega,hinv⟩ (by simp [keep,zm]) (by rw [List.take_of_length_le (Nat.le_refl _)]) rfl
set_option maxHeartbeats 16000000 in
theorem y23q4_loop {C:CallW} (hC:LeC C C) (P:Program) {n a i N n0:Nat} {e:Array Int} {S:List (List AV)} {H:List HObj} {is:List Item} {K:KC} (hAsk:AskC C gF qF cvF n n S H) (hS:S[n]? = some (flat iA e)) (hn0:n0=S.length) (hN:e.size=N) (ha:a < N) (hi:1≤i) (hl:N≤2305843009213693952):∀(j:Nat) (fr:Fr),j < N→keep (zm false [0,2,2,1,6,2,77]) fr=[.row (.stk n) 0 N N,.s (.int .i64 a),uu,uu,.fn (.func gF) [] qF,uu,uu,uu,uu,uu,uu,.s (.int .i64 (i:Nat)),.s (.int .i64 (j:Nat)),uu,uu,uu,uu,uu,uu,uu,uu,uu,uu,uu,uu,uu,uu,uu,uu,uu,uu,uu,uu,uu,uu,uu,uu,uu,uu,uu,uu,uu,uu,uu,uu,uu,uu,uu,uu,uu,uu,uu,uu,uu,uu,uu,uu,uu,uu,uu,uu,uu,uu,uu,uu,uu,uu,uu,uu,uu,uu,uu,uu,uu,uu,uu,uu,uu,uu,uu,uu,uu,uu,uu,uu,uu,uu,uu,uu,uu]→(∀x50 x51 x52 x53 x54 x55 x56 x57 x58 x59 x60 x61 x62 x63 x64 x65:AV,nxt C P false is [.row (.stk n) 0 N N,.s (.int .i64 a),uu,uu,.fn (.func gF) [] qF,uu,uu,uu,uu,uu,uu,.s (.int .i64 (i:Nat)),.s (.int .i64 (Sort.scanDown (fun x=>(ltC cvF) e[a]! x) e i j:Nat)),uu,uu,uu,uu,uu,uu,uu,uu,uu,uu,uu,uu,uu,uu,uu,uu,uu,uu,uu,uu,uu,uu,uu,uu,uu,uu,uu,uu,uu,uu,uu,uu,uu,uu,uu,uu,uu,x50,x51,x52,x53,x54,x55,x56,x57,x58,x59,x60,x61,x62,x63,x64,x65,uu,uu,uu,uu,uu,uu,uu,uu,uu,uu,uu,uu,uu,uu,uu,uu,uu,uu,uu,uu,uu,uu,uu,uu] ⟨S,H⟩ K)→runLp C P false (zm false [0,2,2,1,6,2,77]) y23k4 n0 (.blk 4 :: is) fr ⟨S,H⟩ K:=by
  intro j fr hj hk hX
  generalize hR:Sort.scanDown (fun x=>(ltC cvF) e[a]! x) e i j=R at hX
  subst hn0
  have hqu:=hAsk.1 _ (Nat.le_refl _)
  have hn:=slt hS
  refine loop_rule hC (α:=Nat) (fun x=>x) (fun x=>[.row (.stk n) 0 N N,.s (.int .i64 a),uu,uu,.fn (.func gF) [] qF,uu,uu,uu,uu,uu,uu,.s (.int .i64 (i:Nat)),.s (.int .i64 (x:Nat)),uu,uu,uu,uu,uu,uu,uu,uu,uu,uu,uu,uu,uu,uu,uu,uu,uu,uu,uu,uu,uu,uu,uu,uu,uu,uu,uu,uu,uu,uu,uu,uu,uu,uu,uu,uu,uu,uu,uu,uu,uu,uu,uu,uu,uu,uu,uu,uu,uu,uu,uu,uu,uu,uu,uu,uu,uu,uu,uu,uu,uu,uu,uu,uu,uu,uu,uu,uu,uu,uu,uu,uu,uu,uu,uu,uu,uu]) (fun _=>S) (fun _=>H) (fun x=>x < N∧R=Sort.scanDown (fun x=>(ltC cvF) e[a]! x) e i x) j ⟨hj,hR.symm⟩ hk (by rw [List.take_of_length_le (Nat.le_refl _)]) rfl (fun x _=>by simp [AV.under,AV.under.go,hn,hqu]) ?_
  rintro x ⟨hx,hinv⟩ ih
  by_cases hxj:i≤x
  case neg =>
    have hlt:¬((i:Int)≤(x:Int)):=by omega
    have hq:Sort.scanDown (fun x=>(ltC cvF) e[a]! x) e i x=x:=by
      cases x with
      | zero=>rfl
      | succ x=>rw [Sort.scanDown,if_neg (by rw [Bool.and_eq_true,decide_eq_true_eq]; exact fun h=>hxj h.1)]
    rw [hinv,hq] at hX
    simp only [Czb,A_,simprocAttr,ne_eq,Uzd.1,hlt]
    exact hX _ _ _ _ _ _ _ _ _ _ _ _ _ _ _ _
  obtain ⟨y,rfl⟩:∃y,x=y + 1:=⟨x - 1,by omega⟩
  have hlt:((i:Int)≤((y + 1:Nat):Int)):=by omega
  have hw1:IntKind.i64.wrap (((y + 1:Nat):Int) - 1)=((y:Nat):Int):=by rw [wrap_i64 (by omega) (by omega)]; omega
  have x1:∀kk:IntKind,indexAddrL (.sl 1) (.row (.stk n) 0 N N) (.s (.int kk ((y + 1:Nat):Int)))=some (.ptr (.stk n) (y + 1)):=fun kk=>ixi (by omega)
  have x2:∀kk:IntKind,indexAddrL (.sl 1) (.row (.stk n) 0 N N) (.s (.int kk (a:Int)))=some (.ptr (.stk n) a):=fun kk=>ixi (by omega)
  have r1:=ird (H:=H) hS (i:=y + 1) (by omega)
  have r2:=ird (H:=H) hS (i:=a) (by omega)
  simp only [Czb,A_,simprocAttr,ne_eq,Uzd.1,hlt,x1,x2,r1,r2]
  refine hAsk.2 _ _ _ _ (by first | exact fun _ _ _ _=>rfl | exact fun i _ h _=>List.getElem?_set_ne (Ne.symm h)) ?_
  cases hlk:(ltC cvF) e[a]! e[y + 1]! with
  | false =>
    have hlc:=ltC_f hlk
    rw [Sort.scanDown,if_neg (by rw [Bool.and_eq_true,hlk]; simp)] at hinv
    rw [hinv] at hX
    simp only [Czb,A_,simprocAttr,ne_eq,Uzd.1,hlc]
    exact hX _ _ _ _ _ _ _ _ _ _ _ _ _ _ _ _
  | true =>
    have hlc:=ltC_t hlk
    rw [Sort.scanDown,if_pos (by rw [Bool.and_eq_true,hlk]; exact ⟨decide_eq_true hxj,rfl⟩)] at hinv
    simp only [Czb,A_,simprocAttr,ne_eq,Uzd.1,hlc,hw1]
    exact ih y _ _ _ (by omega) ⟨by omega,hinv⟩ (by simp [keep,zm]) (by rw [List.take_of_length_le (Nat.le_refl _)]) rfl
def PeqSF (C:CallW) (gF:FuncId) (qF:List AV) (cvF:Int→Int→Int) (f:FuncId):Prop:=∀(n:Nat) (d:Array Int) (a b p:Nat) S H (K:AV→St→Prop),AskC C gF qF cvF n n S H→S[n]? = some (flat iA d)→a≤p→p < b→b≤d.size→d.size≤2305843009213693952→K (.s (.int .i64 (Sort.partitionEqual (ltC cvF) d a b p).1)) ⟨S.set n (flat iA (Sort.partitionEqual (ltC cvF) d a b p).2),H⟩→C (.fn f) [.row (.stk n) 0 d.size d.size,.s (.int .i64 a),.s (.int .i64 b),.s (.int .i64 p),.fn (.func gF) [] qF] ⟨S,H⟩ K
set_option maxHeartbeats 16000000 in
theorem partitionEqual_specF {C:CallW} (hC:LeC C C) (P:Program):∀(n:Nat) (d:Array Int) (a b p:Nat) S H (K:AV→St→Prop),AskC C gF qF cvF n n S H→S[n]? = some (flat iA d)→a≤p→p < b→b≤d.size→d.size≤2305843009213693952→K (.s (.int .i64 (Sort.partitionEqual (ltC cvF) d a b p).1)) ⟨S.set n (flat iA (Sort.partitionEqual (ltC cvF) d a b p).2),H⟩→runL C P Czb [.row (.stk n) 0 d.size d.size,.s (.int .i64 a),.s (.int .i64 b),.s (.int .i64 p),.fn (.func gF) [] qF] ⟨S,H⟩ K:=by
  intro n d a b p S H K hAsk hS hap hpb hbd hdl hK
  have hqu:=hAsk.1 _ (Nat.le_refl _)
  have hn:=slt hS
  unfold Sort.partitionEqual at hK
  have hw0:IntKind.i64.wrap ((a:Int) + 1)=((a + 1:Nat):Int):=by rw [wrap_i64 (by omega) (by omega)]; omega
  have hw1:IntKind.i64.wrap ((b:Int) - 1)=((b - 1:Nat):Int):=by rw [wrap_i64 (by omega) (by omega)]; omega
  have x1:∀kk:IntKind,indexAddrL (.sl 1) (.row (.stk n) 0 d.size d.size) (.s (.int kk (a:Int)))=some (.ptr (.stk n) a):=fun kk=>ixi (by omega)
  have x2:∀kk:IntKind,indexAddrL (.sl 1) (.row (.stk n) 0 d.size d.size) (.s (.int kk (p:Int)))=some (.ptr (.stk n) p):=fun kk=>ixi (by omega)
  have r1:=ird (H:=H) hS (i:=a) (by omega)
  have r2:=ird (H:=H) hS (i:=p) (by omega)
  obtain ⟨w1,w2⟩:=sw2 (H:=H) hS (i:=a) (j:=p) (by omega) (by omega)
  simp only [Czb,A_,simprocAttr,ne_eq,Uzd.1,hw0,hw1,x1,x2,r1,r2,w1,w2]
  have hds:(Sort.swp d a p).size=d.size:=swp_size
  generalize Sort.swp d a p=d1 at hK hds ⊢
  clear x1 x2 r1 r2 w1 w2
  generalize hX:Sort.partEqLoop (ltC cvF) a (a + 1) (b - 1) d1=X at hK
  refine loop_rule hC (α:=Nat×Nat×Array Int) (fun x=>x.2.1 + 1 - x.1) (fun x=>[.row (.stk n) 0 d.size d.size,.s (.int .i64 a),uu,uu,.fn (.func gF) [] qF,uu,uu,uu,uu,uu,uu,.s (.int .i64 (x.1:Nat)),.s (.int .i64 (x.2.1:Nat)),uu,uu,uu,uu,uu,uu,uu,uu,uu,uu,uu,uu,uu,uu,uu,uu,uu,uu,uu,uu,uu,uu,uu,uu,uu,uu,uu,uu,uu,uu,uu,uu,uu,uu,uu,uu,uu,uu,uu,uu,uu,uu,uu,uu,uu,uu,uu,uu,uu,uu,uu,uu,uu,uu,uu,uu,uu,uu,uu,uu,uu,uu,uu,uu,uu,uu,uu,uu,uu,uu,uu,uu,uu,uu,uu,uu,uu]) (fun x=>S.set n (flat iA x.2.2)) (fun _=>H) (fun x=>1≤x.1∧x.1≤x.2.1 + 2∧x.2.1 < d.size∧x.2.2.size=d.size∧X=Sort.partEqLoop (ltC cvF) a x.1 x.2.1 x.2.2) (a + 1,b - 1,d1) ⟨by dsimp only; omega,by dsimp only; omega,by dsimp only; omega,hds,hX.symm⟩ (by simp [keep,zm]) (by rw [List.take_of_length_le]; simp) rfl (fun x _=>by simp [AV.under,AV.under.go,hn,hqu]) ?_
  rintro ⟨i,j,e⟩ ⟨h1,h2,hj,hes,hinv⟩ ih
  dsimp only at h1 h2 hj hes hinv ih ⊢
  simp only [Czb,A_,simprocAttr,ne_eq,Uzd.1]
  refine y23q2_loop (a:=a) hC P (by first | exact hAsk | exact hAsk.setn | exact hAsk.setn.setn | exact hAsk.setm | exact hAsk.setm.setm | exact hAsk.app) (sset hS) (by simp) hes (by omega) hj hdl i _ h2 (by simp [keep,zm]) fun fr' hk' => ?_
  simp only [Czb,A_,simprocAttr,ne_eq,Uzd.1]
  obtain ⟨u1,u2⟩:=scanUp_bd (fun x => !(ltC cvF) e[a]! x) e j _ i (Nat.le_refl _)
  obtain ⟨i2,hi2⟩:∃i2,Sort.scanUp (fun x => !(ltC cvF) e[a]! x) e j i=i2:=⟨_,rfl⟩
  rw [hi2] at hk' u1 u2
  refine y23q4_loop (a:=a) hC P (by first | exact hAsk | exact hAsk.setn | exact hAsk.setn.setn | exact hAsk.setm | exact hAsk.setm.setm | exact hAsk.app) (sset hS) (by simp) hes (by omega) (by omega) hdl j _ hj hk' ?_
  have v1:=scanDown_le (fun x=>(ltC cvF) e[a]! x) e i2 j
  obtain ⟨j2,hj2⟩:∃j2,Sort.scanDown (fun x=>(ltC cvF) e[a]! x) e i2 j=j2:=⟨_,rfl⟩
  rw [hj2] at v1 ⊢
  intro x50 x51 x52 x53 x54 x55 x56 x57 x58 x59 x60 x61 x62 x63 x64 x65
  rw [Sort.partEqLoop] at hinv
  simp only [hi2,hj2] at hinv
  by_cases hij:j2 < i2
  · have hlt:((j2:Int) < (i2:Int)):=by omega
    rw [if_pos hij] at hinv
    rw [hinv] at hK
    simp only [Czb,A_,simprocAttr,ne_eq,Uzd.1,hlt]
    exact hK
  have hlt:¬((j2:Int) < (i2:Int)):=by omega
  rw [if_neg hij,dif_pos (by omega)] at hinv
  have hwi:IntKind.i64.wrap ((i2:Int) + 1)=((i2 + 1:Nat):Int):=by rw [wrap_i64 (by omega) (by omega)]; omega
  have hwj:IntKind.i64.wrap ((j2:Int) - 1)=((j2 - 1:Nat):Int):=by rw [wrap_i64 (by omega) (by omega)]; omega
  have x1:∀kk:IntKind,indexAddrL (.sl 1) (.row (.stk n) 0 d.size d.size) (.s (.int kk (i2:Int)))=some (.ptr (.stk n) i2):=fun kk=>ixi (by omega)
  have x2:∀kk:IntKind,indexAddrL (.sl 1) (.row (.stk n) 0 d.size d.size) (.s (.int kk (j2:Int)))=some (.ptr (.stk n) j2):=fun kk=>ixi (by omega)
  have hSe:(S.set n (flat iA e))[n]? = some (flat iA e):=sset hS
  have r1:=ird (H:=H) hSe (i:=i2) (by omega)
  have r2:=ird (H:=H) hSe (i:=j2) (by omega)
  obtain ⟨w1,w2⟩:=sw2 (H:=H) hSe (i:=i2) (j:=j2) (by omega) (by omega)
  rw [List.set_set] at w1 w2
  rw [List.set_set] at w2
  simp only [Czb,A_,simprocAttr,ne_eq,Uzd.1,hlt,x1,x2,r1,r2,w1,w2,hwi,hwj]
  exact ih (i2 + 1,j2 - 1,Sort.swp e i2 j2) _ _ _ (by dsimp only; omega) ⟨by dsimp only; omega,by dsimp only; omega,by dsimp only; omega,by rw [swp_size]; exact hes,hinv⟩ (by simp [keep,zm]) (by rw [List.take_of_length_le]; simp) rfl
end Go.AM
namespace Go.AM
open Go
open AV renaming undef → uu
set_option maxRecDepth 20000
variable {gF:FuncId} {qF:List AV} {cvF:Int→Int→Int}
set_option maxHeartbeats 16000000 in
theorem y23r2_loop {C:CallW} (hC:LeC C C) (P:Program) {n a j N n0:Nat} {e:Array Int} {S:List (List AV)} {H:List HObj} {is:List Item} {K:KC} (hAsk:AskC C gF qF cvF n n S H) (hS:S[n]? = some (flat iA e)) (hn0:n0=S.length) (hN:e.size=N) (ha:a < N) (hj:j < N) (hl:N≤2305843009213693952):∀(i:Nat) (fr:Fr),i≤j + 2→keep (zm false [0,2,2,1,7,2,164]) fr=[.row (.stk n) 0 N N,.s (.int .i64 a),uu,uu,.fn (.func gF) [] qF,uu,uu,uu,uu,uu,uu,uu,.s (.int .i64 (i:Nat)),.s (.int .i64 (j:Nat)),uu,uu,uu,uu,uu,uu,uu,uu,uu,uu,uu,uu,uu,uu,uu,uu,uu,uu,uu,uu,uu,uu,uu,uu,uu,uu,uu,uu,uu,uu,uu,uu,uu,uu,uu,uu,uu,uu,uu,uu,uu,uu,uu,uu,uu,uu,uu,uu,uu,uu,uu,uu,uu,uu,uu,uu,uu,uu,uu,uu,uu,uu,uu,uu,uu,uu,uu,uu,uu,uu,uu,uu,uu,uu,uu,uu,uu,uu,uu,uu,uu,uu,uu,uu,uu,uu,uu,uu,uu,uu,uu,uu,uu,uu,uu,uu,uu,uu,uu,uu,uu,uu,uu,uu,uu,uu,uu,uu,uu,uu,uu,uu,uu,uu,uu,uu,uu,uu,uu,uu,uu,uu,uu,uu,uu,uu,uu,uu,uu,uu,uu,uu,uu,uu,uu,uu,uu,uu,uu,uu,uu,uu,uu,uu,uu,uu,uu,uu,uu,uu,uu,uu,uu,uu,uu,uu,uu,uu,uu,uu,uu,uu,uu,uu]→(∀fr',keep (zm false [0,2,2,1,7,2,164]) fr'=[.row (.stk n) 0 N N,.s (.int .i64 a),uu,uu,.fn (.func gF) [] qF,uu,uu,uu,uu,uu,uu,uu,.s (.int .i64 (Sort.scanUp (fun x=>(ltC cvF) x e[a]!) e j i:Nat)),.s (.int .i64 (j:Nat)),uu,uu,uu,uu,uu,uu,uu,uu,uu,uu,uu,uu,uu,uu,uu,uu,uu,uu,uu,uu,uu,uu,uu,uu,uu,uu,uu,uu,uu,uu,uu,uu,uu,uu,uu,uu,uu,uu,uu,uu,uu,uu,uu,uu,uu,uu,uu,uu,uu,uu,uu,uu,uu,uu,uu,uu,uu,uu,uu,uu,uu,uu,uu,uu,uu,uu,uu,uu,uu,uu,uu,uu,uu,uu,uu,uu,uu,uu,uu,uu,uu,uu,uu,uu,uu,uu,uu,uu,uu,uu,uu,uu,uu,uu,uu,uu,uu,uu,uu,uu,uu,uu,uu,uu,uu,uu,uu,uu,uu,uu,uu,uu,uu,uu,uu,uu,uu,uu,uu,uu,uu,uu,uu,uu,uu,uu,uu,uu,uu,uu,uu,uu,uu,uu,uu,uu,uu,uu,uu,uu,uu,uu,uu,uu,uu,uu,uu,uu,uu,uu,uu,uu,uu,uu,uu,uu,uu,uu,uu,uu,uu,uu,uu,uu]→nxt C P false is fr' ⟨S,H⟩ K)→runLp C P false (zm false [0,2,2,1,7,2,164]) y23l2 n0 (.blk 0 :: is) fr ⟨S,H⟩ K:=by
  intro i fr hi hk hX
  generalize hR:Sort.scanUp (fun x=>(ltC cvF) x e[a]!) e j i=R at hX
  subst hn0
  have hqu:=hAsk.1 _ (Nat.le_refl _)
  have hn:=slt hS
  refine loop_rule hC (α:=Nat) (fun x=>j + 2 - x) (fun x=>[.row (.stk n) 0 N N,.s (.int .i64 a),uu,uu,.fn (.func gF) [] qF,uu,uu,uu,uu,uu,uu,uu,.s (.int .i64 (x:Nat)),.s (.int .i64 (j:Nat)),uu,uu,uu,uu,uu,uu,uu,uu,uu,uu,uu,uu,uu,uu,uu,uu,uu,uu,uu,uu,uu,uu,uu,uu,uu,uu,uu,uu,uu,uu,uu,uu,uu,uu,uu,uu,uu,uu,uu,uu,uu,uu,uu,uu,uu,uu,uu,uu,uu,uu,uu,uu,uu,uu,uu,uu,uu,uu,uu,uu,uu,uu,uu,uu,uu,uu,uu,uu,uu,uu,uu,uu,uu,uu,uu,uu,uu,uu,uu,uu,uu,uu,uu,uu,uu,uu,uu,uu,uu,uu,uu,uu,uu,uu,uu,uu,uu,uu,uu,uu,uu,uu,uu,uu,uu,uu,uu,uu,uu,uu,uu,uu,uu,uu,uu,uu,uu,uu,uu,uu,uu,uu,uu,uu,uu,uu,uu,uu,uu,uu,uu,uu,uu,uu,uu,uu,uu,uu,uu,uu,uu,uu,uu,uu,uu,uu,uu,uu,uu,uu,uu,uu,uu,uu,uu,uu,uu,uu,uu,uu,uu,uu,uu,uu]) (fun _=>S) (fun _=>H) (fun x=>x≤j + 2∧R=Sort.scanUp (fun x=>(ltC cvF) x e[a]!) e j x) i ⟨hi,hR.symm⟩ hk (by rw [List.take_of_length_le (Nat.le_refl _)]) rfl (fun x _=>by simp [AV.under,AV.under.go,hn,hqu]) ?_
  rintro x ⟨hx,hinv⟩ ih
  by_cases hxj:x≤j
  case neg =>
    have hlt:¬((x:Int)≤(j:Int)):=by omega
    rw [Sort.scanUp,if_neg (by rw [Bool.and_eq_true,decide_eq_true_eq]; exact fun h=>hxj h.1)] at hinv
    rw [hinv] at hX
    simp only [Cz7,A_,simprocAttr,ne_eq,Uz9.1,hlt]
    exact hX _ (by simp [keep,zm])
  have hlt:((x:Int)≤(j:Int)):=by omega
  have hw1:IntKind.i64.wrap ((x:Int) + 1)=((x + 1:Nat):Int):=by rw [wrap_i64 (by omega) (by omega)]; omega
  have x1:∀kk:IntKind,indexAddrL (.sl 1) (.row (.stk n) 0 N N) (.s (.int kk (x:Int)))=some (.ptr (.stk n) x):=fun kk=>ixi (by omega)
  have x2:∀kk:IntKind,indexAddrL (.sl 1) (.row (.stk n) 0 N N) (.s (.int kk (a:Int)))=some (.ptr (.stk n) a):=fun kk=>ixi (by omega)
  have r1:=ird (H:=H) hS (i:=x) (by omega)
  have r2:=ird (H:=H) hS (i:=a) (by omega)
  simp only [Cz7,A_,simprocAttr,ne_eq,Uz9.1,hlt,x1,x2,r1,r2]
  refine hAsk.2 _ _ _ _ (by first | exact fun _ _ _ _=>rfl | exact fun i _ h _=>List.getElem?_set_ne (Ne.symm h)) ?_
  cases hlk:(ltC cvF) e[x]! e[a]! with
  | false =>
    have hlc:=ltC_f hlk
    rw [Sort.scanUp,if_neg (by rw [Bool.and_eq_true,hlk]; simp)] at hinv
    rw [hinv] at hX
    simp only [Cz7,A_,simprocAttr,ne_eq,Uz9.1,hlc]
    exact hX _ (by simp [keep,zm])
  | true =>
    have hlc:=ltC_t hlk
    rw [Sort.scanUp,if_pos (by rw [Bool.and_eq_true,hlk]; exact ⟨decide_eq_true hxj,rfl⟩)] at hinv
    simp only [Cz7,A_,simprocAttr,ne_eq,Uz9.1,hlc,hw1]
    exact ih (x + 1) _ _ _ (by omega) ⟨by omega,hinv⟩ (by simp [keep,zm]) (by rw [List.take_of_length_le (Nat.le_refl _)]) rfl
set_option maxHeartbeats 16000000 in
theorem y23r4_loop {C:CallW} (hC:LeC C C) (P:Program) {n a i N n0:Nat} {e:Array Int} {S:List (List AV)} {H:List HObj} {is:List Item} {K:KC} (hAsk:AskC C gF qF cvF n n S H) (hS:S[n]? = some (flat iA e)) (hn0:n0=S.length) (hN:e.size=N) (ha:a < N) (hi:1≤i) (hl:N≤2305843009213693952):∀(j:Nat) (fr:Fr),j < N→keep (zm false [0,2,2,1,7,2,164]) fr=[.row (.stk n) 0 N N,.s (.int .i64 a),uu,uu,.fn (.func gF) [] qF,uu,uu,uu,uu,uu,uu,uu,.s (.int .i64 (i:Nat)),.s (.int .i64 (j:Nat)),uu,uu,uu,uu,uu,uu,uu,uu,uu,uu,uu,uu,uu,uu,uu,uu,uu,uu,uu,uu,uu,uu,uu,uu,uu,uu,uu,uu,uu,uu,uu,uu,uu,uu,uu,uu,uu,uu,uu,uu,uu,uu,uu,uu,uu,uu,uu,uu,uu,uu,uu,uu,uu,uu,uu,uu,uu,uu,uu,uu,uu,uu,uu,uu,uu,uu,uu,uu,uu,uu,uu,uu,uu,uu,uu,uu,uu,uu,uu,uu,uu,uu,uu,uu,uu,uu,uu,uu,uu,uu,uu,uu,uu,uu,uu,uu,uu,uu,uu,uu,uu,uu,uu,uu,uu,uu,uu,uu,uu,uu,uu,uu,uu,uu,uu,uu,uu,uu,uu,uu,uu,uu,uu,uu,uu,uu,uu,uu,uu,uu,uu,uu,uu,uu,uu,uu,uu,uu,uu,uu,uu,uu,uu,uu,uu,uu,uu,uu,uu,uu,uu,uu,uu,uu,uu,uu,uu,uu,uu,uu,uu,uu,uu,uu]→(∀x50 x51 x52 x53 x54 x55 x56 x57 x58 x59 x60 x61 x62 x63 x64 x65 x66:AV,nxt C P false is [.row (.stk n) 0 N N,.s (.int .i64 a),uu,uu,.fn (.func gF) [] qF,uu,uu,uu,uu,uu,uu,uu,.s (.int .i64 (i:Nat)),.s (.int .i64 (Sort.scanDown (fun x => !(ltC cvF) x e[a]!) e i j:Nat)),uu,uu,uu,uu,uu,uu,uu,uu,uu,uu,uu,uu,uu,uu,uu,uu,uu,uu,uu,uu,uu,uu,uu,uu,uu,uu,uu,uu,uu,uu,uu,uu,uu,uu,uu,uu,x50,x51,x52,x53,x54,x55,x56,x57,x58,x59,x60,x61,x62,x63,x64,x65,x66,uu,uu,uu,uu,uu,uu,uu,uu,uu,uu,uu,uu,uu,uu,uu,uu,uu,uu,uu,uu,uu,uu,uu,uu,uu,uu,uu,uu,uu,uu,uu,uu,uu,uu,uu,uu,uu,uu,uu,uu,uu,uu,uu,uu,uu,uu,uu,uu,uu,uu,uu,uu,uu,uu,uu,uu,uu,uu,uu,uu,uu,uu,uu,uu,uu,uu,uu,uu,uu,uu,uu,uu,uu,uu,uu,uu,uu,uu,uu,uu,uu,uu,uu,uu,uu,uu,uu,uu,uu,uu,uu,uu,uu,uu,uu,uu,uu,uu,uu,uu,uu,uu,uu,uu,uu,uu,uu,uu,uu,uu,uu] ⟨S,H⟩ K)→runLp C P false (zm false [0,2,2,1,7,2,164]) y23l4 n0 (.blk 2 :: is) fr ⟨S,H⟩ K:=by
  intro j fr hj hk hX
  generalize hR:Sort.scanDown (fun x => !(ltC cvF) x e[a]!) e i j=R at hX
  subst hn0
  have hqu:=hAsk.1 _ (Nat.le_refl _)
  have hn:=slt hS
  refine loop_rule hC (α:=Nat) (fun x=>x) (fun x=>[.row (.stk n) 0 N N,.s (.int .i64 a),uu,uu,.fn (.func gF) [] qF,uu,uu,uu,uu,uu,uu,uu,.s (.int .i64 (i:Nat)),.s (.int .i64 (x:Nat)),uu,uu,uu,uu,uu,uu,uu,uu,uu,uu,uu,uu,uu,uu,uu,uu,uu,uu,uu,uu,uu,uu,uu,uu,uu,uu,uu,uu,uu,uu,uu,uu,uu,uu,uu,uu,uu,uu,uu,uu,uu,uu,uu,uu,uu,uu,uu,uu,uu,uu,uu,uu,uu,uu,uu,uu,uu,uu,uu,uu,uu,uu,uu,uu,uu,uu,uu,uu,uu,uu,uu,uu,uu,uu,uu,uu,uu,uu,uu,uu,uu,uu,uu,uu,uu,uu,uu,uu,uu,uu,uu,uu,uu,uu,uu,uu,uu,uu,uu,uu,uu,uu,uu,uu,uu,uu,uu,uu,uu,uu,uu,uu,uu,uu,uu,uu,uu,uu,uu,uu,uu,uu,uu,uu,uu,uu,uu,uu,uu,uu,uu,uu,uu,uu,uu,uu,uu,uu,uu,uu,uu,uu,uu,uu,uu,uu,uu,uu,uu,uu,uu,uu,uu,uu,uu,uu,uu,uu,uu,uu,uu,uu,uu,uu]) (fun _=>S) (fun _=>H) (fun x=>x < N∧R=Sort.scanDown (fun x => !(ltC cvF) x e[a]!) e i x) j ⟨hj,hR.symm⟩ hk (by rw [List.take_of_length_le (Nat.le_refl _)]) rfl (fun x _=>by simp [AV.under,AV.under.go,hn,hqu]) ?_
  rintro x ⟨hx,hinv⟩ ih
  by_cases hxj:i≤x
  case neg =>
    have hlt:¬((i:Int)≤(x:Int)):=by omega
    have hq:Sort.scanDown (fun x => !(ltC cvF) x e[a]!) e i x=x:=by
      cases x with
      | zero=>rfl
      | succ x=>rw [Sort.scanDown,if_neg (by rw [Bool.and_eq_true,decide_eq_true_eq]; exact fun h=>hxj h.1)]
    rw [hinv,hq] at hX
    simp only [Cz7,A_,simprocAttr,ne_eq,Uz9.1,hlt]
    exact hX _ _ _ _ _ _ _ _ _ _ _ _ _ _ _ _ _
  obtain ⟨y,rfl⟩:∃y,x=y + 1:=⟨x - 1,by omega⟩
  have hlt:((i:Int)≤((y + 1:Nat):Int)):=by omega
  have hw1:IntKind.i64.wrap (((y + 1:Nat):Int) - 1)=((y:Nat):Int):=by rw [wrap_i64 (by omega) (by omega)]; omega
  have x1:∀kk:IntKind,indexAddrL (.sl 1) (.row (.stk n) 0 N N) (.s (.int kk ((y + 1:Nat):Int)))=some (.ptr (.stk n) (y + 1)):=fun kk=>ixi (by omega)
  have x2:∀kk:IntKind,indexAddrL (.sl 1) (.row (.stk n) 0 N N) (.s (.int kk (a:Int)))=some (.ptr (.stk n) a):=fun kk=>ixi (by omega)
  have r1:=ird (H:=H) hS (i:=y + 1) (by omega)
  have r2:=ird (H:=H) hS (i:=a) (by omega)
  simp only [Cz7,A_,simprocAttr,ne_eq,Uz9.1,hlt,x1,x2,r1,r2]
  refine hAsk.2 _ _ _ _ (by first | exact fun _ _ _ _=>rfl | exact fun i _ h _=>List.getElem?_set_ne (Ne.symm h)) ?_
  cases hlk:(ltC cvF) e[y + 1]! e[a]! with
  | true =>
    have hlc:=ltC_t hlk
    rw [Sort.scanDown,if_neg (by rw [Bool.and_eq_true,hlk]; simp)] at hinv
    rw [hinv] at hX
    simp only [Cz7,A_,simprocAttr,ne_eq,Uz9.1,hlc]
    exact hX _ _ _ _ _ _ _ _ _ _ _ _ _ _ _ _ _
  | false =>
    have hlc:=ltC_f hlk
    rw [Sort.scanDown,if_pos (by rw [Bool.and_eq_true,hlk]; exact ⟨decide_eq_true hxj,rfl⟩)] at hinv
    simp only [Cz7,A_,simprocAttr,ne_eq,Uz9.1,hlc,hw1]
    exact ih y _ _ _ (by omega) ⟨by omega,hinv⟩ (by simp [keep,zm]) (by rw [List.take_of_length_le (Nat.le_refl _)]) rfl
set_option maxHeartbeats 16000000 in
theorem y23r8_loop {C:CallW} (hC:LeC C C) (P:Program) {n a j N n0:Nat} {e:Array Int} {S:List (List AV)} {H:List HObj} {is:List Item} {K:KC} (hAsk:AskC C gF qF cvF n n S H) (hS:S[n]? = some (flat iA e)) (hn0:n0=S.length) (hN:e.size=N) (ha:a < N) (hj:j < N) (hl:N≤2305843009213693952):∀(i:Nat) (fr:Fr),i≤j + 2→keep (zm false [0,2,2,1,7,2,164]) fr=[.row (.stk n) 0 N N,.s (.int .i64 a),uu,uu,.fn (.func gF) [] qF,uu,uu,uu,uu,uu,uu,uu,.s (.int .i64 (i:Nat)),.s (.int .i64 (j:Nat)),uu,uu,uu,uu,uu,uu,uu,uu,uu,uu,uu,uu,uu,uu,uu,uu,uu,uu,uu,uu,uu,uu,uu,uu,uu,uu,uu,uu,uu,uu,uu,uu,uu,uu,uu,uu,uu,uu,uu,uu,uu,uu,uu,uu,uu,uu,uu,uu,uu,uu,uu,uu,uu,uu,uu,uu,uu,uu,uu,uu,uu,uu,uu,uu,uu,uu,uu,uu,uu,uu,uu,uu,uu,uu,uu,uu,uu,uu,uu,uu,uu,uu,uu,uu,uu,uu,uu,uu,uu,uu,uu,uu,uu,uu,uu,uu,uu,uu,uu,uu,uu,uu,uu,uu,uu,uu,uu,uu,uu,uu,uu,uu,uu,uu,uu,uu,uu,uu,uu,uu,uu,uu,uu,uu,uu,uu,uu,uu,uu,uu,uu,uu,uu,uu,uu,uu,uu,uu,uu,uu,uu,uu,uu,uu,uu,uu,uu,uu,uu,uu,uu,uu,uu,uu,uu,uu,uu,uu,uu,uu,uu,uu,uu,uu]→(∀fr',keep (zm false [0,2,2,1,7,2,164]) fr'=[.row (.stk n) 0 N N,.s (.int .i64 a),uu,uu,.fn (.func gF) [] qF,uu,uu,uu,uu,uu,uu,uu,.s (.int .i64 (Sort.scanUp (fun x=>(ltC cvF) x e[a]!) e j i:Nat)),.s (.int .i64 (j:Nat)),uu,uu,uu,uu,uu,uu,uu,uu,uu,uu,uu,uu,uu,uu,uu,uu,uu,uu,uu,uu,uu,uu,uu,uu,uu,uu,uu,uu,uu,uu,uu,uu,uu,uu,uu,uu,uu,uu,uu,uu,uu,uu,uu,uu,uu,uu,uu,uu,uu,uu,uu,uu,uu,uu,uu,uu,uu,uu,uu,uu,uu,uu,uu,uu,uu,uu,uu,uu,uu,uu,uu,uu,uu,uu,uu,uu,uu,uu,uu,uu,uu,uu,uu,uu,uu,uu,uu,uu,uu,uu,uu,uu,uu,uu,uu,uu,uu,uu,uu,uu,uu,uu,uu,uu,uu,uu,uu,uu,uu,uu,uu,uu,uu,uu,uu,uu,uu,uu,uu,uu,uu,uu,uu,uu,uu,uu,uu,uu,uu,uu,uu,uu,uu,uu,uu,uu,uu,uu,uu,uu,uu,uu,uu,uu,uu,uu,uu,uu,uu,uu,uu,uu,uu,uu,uu,uu,uu,uu,uu,uu,uu,uu,uu,uu]→nxt C P false is fr' ⟨S,H⟩ K)→runLp C P false (zm false [0,2,2,1,7,2,164]) y23l8 n0 (.blk 6 :: is) fr ⟨S,H⟩ K:=by
  intro i fr hi hk hX
  generalize hR:Sort.scanUp (fun x=>(ltC cvF) x e[a]!) e j i=R at hX
  subst hn0
  have hqu:=hAsk.1 _ (Nat.le_refl _)
  have hn:=slt hS
  refine loop_rule hC (α:=Nat) (fun x=>j + 2 - x) (fun x=>[.row (.stk n) 0 N N,.s (.int .i64 a),uu,uu,.fn (.func gF) [] qF,uu,uu,uu,uu,uu,uu,uu,.s (.int .i64 (x:Nat)),.s (.int .i64 (j:Nat)),uu,uu,uu,uu,uu,uu,uu,uu,uu,uu,uu,uu,uu,uu,uu,uu,uu,uu,uu,uu,uu,uu,uu,uu,uu,uu,uu,uu,uu,uu,uu,uu,uu,uu,uu,uu,uu,uu,uu,uu,uu,uu,uu,uu,uu,uu,uu,uu,uu,uu,uu,uu,uu,uu,uu,uu,uu,uu,uu,uu,uu,uu,uu,uu,uu,uu,uu,uu,uu,uu,uu,uu,uu,uu,uu,uu,uu,uu,uu,uu,uu,uu,uu,uu,uu,uu,uu,uu,uu,uu,uu,uu,uu,uu,uu,uu,uu,uu,uu,uu,uu,uu,uu,uu,uu,uu,uu,uu,uu,uu,uu,uu,uu,uu,uu,uu,uu,uu,uu,uu,uu,uu,uu,uu,uu,uu,uu,uu,uu,uu,uu,uu,uu,uu,uu,uu,uu,uu,uu,uu,uu,uu,uu,uu,uu,uu,uu,uu,uu,uu,uu,uu,uu,uu,uu,uu,uu,uu,uu,uu,uu,uu,uu,uu]) (fun _=>S) (fun _=>H) (fun x=>x≤j + 2∧R=Sort.scanUp (fun x=>(ltC cvF) x e[a]!) e j x) i ⟨hi,hR.symm⟩ hk (by rw [List.take_of_length_le (Nat.le_refl _)]) rfl (fun x _=>by simp [AV.under,AV.under.go,hn,hqu]) ?_
  rintro x ⟨hx,hinv⟩ ih
  by_cases hxj:x≤j
  case neg =>
    have hlt:¬((x:Int)≤(j:Int)):=by omega
    rw [Sort.scanUp,if_neg (by rw [Bool.and_eq_true,decide_eq_true_eq]; exact fun h=>hxj h.1)] at hinv
    rw [hinv] at hX
    simp only [Cz7,A_,simprocAttr,ne_eq,Uz9.1,hlt]
    exact hX _ (by simp [keep,zm])
  have hlt:((x:Int)≤(j:Int)):=by omega
  have hw1:IntKind.i64.wrap ((x:Int) + 1)=((x + 1:Nat):Int):=by rw [wrap_i64 (by omega) (by omega)]; omega
  have x1:∀kk:IntKind,indexAddrL (.sl 1) (.row (.stk n) 0 N N) (.s (.int kk (x:Int)))=some (.ptr (.stk n) x):=fun kk=>ixi (by omega)
  have x2:∀kk:IntKind,indexAddrL (.sl 1) (.row (.stk n) 0 N N) (.s (.int kk (a:Int)))=some (.ptr (.stk n) a):=fun kk=>ixi (by omega)
  have r1:=ird (H:=H) hS (i:=x) (by omega)
  have r2:=ird (H:=H) hS (i:=a) (by omega)
  simp only [Cz7,A_,simprocAttr,ne_eq,Uz9.1,hlt,x1,x2,r1,r2]
  refine hAsk.2 _ _ _ _ (by first | exact fun _ _ _ _=>rfl | exact fun i _ h _=>List.getElem?_set_ne (Ne.symm h)) ?_
  cases hlk:(ltC cvF) e[x]! e[a]! with
  | false =>
    have hlc:=ltC_f hlk
    rw [Sort.scanUp,if_neg (by rw [Bool.and_eq_true,hlk]; simp)] at hinv
    rw [hinv] at hX
    simp only [Cz7,A_,simprocAttr,ne_eq,Uz9.1,hlc]
    exact hX _ (by simp [keep,zm])
  | true =>
    have hlc:=ltC_t hlk
    rw [Sort.scanUp,if_pos (by rw [Bool.and_eq_true,hlk]; exact ⟨decide_eq_true hxj,rfl⟩)] at hinv
    simp only [Cz7,A_,simprocAttr,ne_eq,Uz9.1,hlc,hw1]
    exact ih (x + 1) _ _ _ (by omega) ⟨by omega,hinv⟩ (by simp [keep,zm]) (by rw [List.take_of_length_le (Nat.le_refl _)]) rfl
set_option maxHeartbeats 16000000 in
theorem y23r10_loop {C:CallW} (hC:LeC C C) (P:Program) {n a i N n0:Nat} {e:Array Int} {S:List (List AV)} {H:List HObj} {is:List Item} {K:KC} (hAsk:AskC C gF qF cvF n n S H) (hS:S[n]? = some (flat iA e)) (hn0:n0=S.length) (hN:e.size=N) (ha:a < N) (hi:1≤i) (hl:N≤2305843009213693952):∀(j:Nat) (fr:Fr),j < N→keep (zm false [0,2,2,1,7,2,164]) fr=[.row (.stk n) 0 N N,.s (.int .i64 a),uu,uu,.fn (.func gF) [] qF,uu,uu,uu,uu,uu,uu,uu,.s (.int .i64 (i:Nat)),.s (.int .i64 (j:Nat)),uu,uu,uu,uu,uu,uu,uu,uu,uu,uu,uu,uu,uu,uu,uu,uu,uu,uu,uu,uu,uu,uu,uu,uu,uu,uu,uu,uu,uu,uu,uu,uu,uu,uu,uu,uu,uu,uu,uu,uu,uu,uu,uu,uu,uu,uu,uu,uu,uu,uu,uu,uu,uu,uu,uu,uu,uu,uu,uu,uu,uu,uu,uu,uu,uu,uu,uu,uu,uu,uu,uu,uu,uu,uu,uu,uu,uu,uu,uu,uu,uu,uu,uu,uu,uu,uu,uu,uu,uu,uu,uu,uu,uu,uu,uu,uu,uu,uu,uu,uu,uu,uu,uu,uu,uu,uu,uu,uu,uu,uu,uu,uu,uu,uu,uu,uu,uu,uu,uu,uu,uu,uu,uu,uu,uu,uu,uu,uu,uu,uu,uu,uu,uu,uu,uu,uu,uu,uu,uu,uu,uu,uu,uu,uu,uu,uu,uu,uu,uu,uu,uu,uu,uu,uu,uu,uu,uu,uu,uu,uu,uu,uu,uu,uu]→(∀x123 x124 x125 x126 x127 x128 x129 x130 x131 x132 x133 x134 x135 x136 x137 x138 x139:AV,nxt C P false is [.row (.stk n) 0 N N,.s (.int .i64 a),uu,uu,.fn (.func gF) [] qF,uu,uu,uu,uu,uu,uu,uu,.s (.int .i64 (i:Nat)),.s (.int .i64 (Sort.scanDown (fun x => !(ltC cvF) x e[a]!) e i j:Nat)),uu,uu,uu,uu,uu,uu,uu,uu,uu,uu,uu,uu,uu,uu,uu,uu,uu,uu,uu,uu,uu,uu,uu,uu,uu,uu,uu,uu,uu,uu,uu,uu,uu,uu,uu,uu,uu,uu,uu,uu,uu,uu,uu,uu,uu,uu,uu,uu,uu,uu,uu,uu,uu,uu,uu,uu,uu,uu,uu,uu,uu,uu,uu,uu,uu,uu,uu,uu,uu,uu,uu,uu,uu,uu,uu,uu,uu,uu,uu,uu,uu,uu,uu,uu,uu,uu,uu,uu,uu,uu,uu,uu,uu,uu,uu,uu,uu,uu,uu,uu,uu,uu,uu,uu,uu,uu,uu,uu,uu,x123,x124,x125,x126,x127,x128,x129,x130,x131,x132,x133,x134,x135,x136,x137,x138,x139,uu,uu,uu,uu,uu,uu,uu,uu,uu,uu,uu,uu,uu,uu,uu,uu,uu,uu,uu,uu,uu,uu,uu,uu,uu,uu,uu,uu,uu,uu,uu,uu,uu,uu,uu,uu,uu,uu] ⟨S,H⟩ K)→runLp C P false (zm false [0,2,2,1,7,2,164]) y23l10 n0 (.blk 8 :: is) fr ⟨S,H⟩ K:=by
  intro j fr hj hk hX
  generalize hR:Sort.scanDown (fun x => !(ltC cvF) x e[a]!) e i j=R at hX
  subst hn0
  have hqu:=hAsk.1 _ (Nat.le_refl _)
  have hn:=slt hS
  refine loop_rule hC (α:=Nat) (fun x=>x) (fun x=>[.row (.stk n) 0 N N,.s (.int .i64 a),uu,uu,.fn (.func gF) [] qF,uu,uu,uu,uu,uu,uu,uu,.s (.int .i64 (i:Nat)),.s (.int .i64 (x:Nat)),uu,uu,uu,uu,uu,uu,uu,uu,uu,uu,uu,uu,uu,uu,uu,uu,uu,uu,uu,uu,uu,uu,uu,uu,uu,uu,uu,uu,uu,uu,uu,uu,uu,uu,uu,uu,uu,uu,uu,uu,uu,uu,uu,uu,uu,uu,uu,uu,uu,uu,uu,uu,uu,uu,uu,uu,uu,uu,uu,uu,uu,uu,uu,uu,uu,uu,uu,uu,uu,uu,uu,uu,uu,uu,uu,uu,uu,uu,uu,uu,uu,uu,uu,uu,uu,uu,uu,uu,uu,uu,uu,uu,uu,uu,uu,uu,uu,uu,uu,uu,uu,uu,uu,uu,uu,uu,uu,uu,uu,uu,uu,uu,uu,uu,uu,uu,uu,uu,uu,uu,uu,uu,uu,uu,uu,uu,uu,uu,uu,uu,uu,uu,uu,uu,uu,uu,uu,uu,uu,uu,uu,uu,uu,uu,uu,uu,uu,uu,uu,uu,uu,uu,uu,uu,uu,uu,uu,uu,uu,uu,uu,uu,uu,uu]) (fun _=>S) (fun _=>H) (fun x=>x < N∧R=Sort.scanDown (fun x => !(ltC cvF) x e[a]!) e i x) j ⟨hj,hR.symm⟩ hk (by rw [List.take_of_length_le (Nat.le_refl _)]) rfl (fun x _=>by simp [AV.under,AV.under.go,hn,hqu]) ?_
  rintro x ⟨hx,hinv⟩ ih
  by_cases hxj:i≤x
  case neg =>
    have hlt:¬((i:Int)≤(x:Int)):=by omega
    have hq:Sort.scanDown (fun x => !(ltC cvF) x e[a]!) e i x=x:=by
      cases x with
      | zero=>rfl
      | succ x=>rw [Sort.scanDown,if_neg (by rw [Bool.and_eq_true,decide_eq_true_eq]; exact fun h=>hxj h.1)]
    rw [hinv,hq] at hX
    simp only [Cz7,A_,simprocAttr,ne_eq,Uz9.1,hlt]
    exact hX _ _ _ _ _ _ _ _ _ _ _ _ _ _ _ _ _
  obtain ⟨y,rfl⟩:∃y,x=y + 1:=⟨x - 1,by omega⟩
  have hlt:((i:Int)≤((y + 1:Nat):Int)):=by omega
  have hw1:IntKind.i64.wrap (((y + 1:Nat):Int) - 1)=((y:Nat):Int):=by rw [wrap_i64 (by omega) (by omega)]; omega
  have x1:∀kk:IntKind,indexAddrL (.sl 1) (.row (.stk n) 0 N N) (.s (.int kk ((y + 1:Nat):Int)))=some (.ptr (.stk n) (y + 1)):=fun kk=>ixi (by omega)
  have x2:∀kk:IntKind,indexAddrL (.sl 1) (.row (.stk n) 0 N N) (.s (.int kk (a:Int)))=some (.ptr (.stk n) a):=fun kk=>ixi (by omega)
  have r1:=ird (H:=H) hS (i:=y + 1) (by omega)
  have r2:=ird (H:=H) hS (i:=a) (by omega)
  simp only [Cz7,A_,simprocAttr,ne_eq,Uz9.1,hlt,x1,x2,r1,r2]
  refine hAsk.2 _ _ _ _ (by first | exact fun _ _ _ _=>rfl | exact fun i _ h _=>List.getElem?_set_ne (Ne.symm h)) ?_
  cases hlk:(ltC cvF) e[y + 1]! e[a]! with
  | true =>
    have hlc:=ltC_t hlk
    rw [Sort.scanDown,if_neg (by rw [Bool.and_eq_true,hlk]; simp)] at hinv
    rw [hinv] at hX
    simp only [Cz7,A_,simprocAttr,ne_eq,Uz9.1,hlc]
    exact hX _ _ _ _ _ _ _ _ _ _ _ _ _ _ _ _ _
  | false =>
    have hlc:=ltC_f hlk
    rw [Sort.scanDown,if_pos (by rw [Bool.and_eq_true,hlk]; exact ⟨decide_eq_true hxj,rfl⟩)] at hinv
    simp only [Cz7,A_,simprocAttr,ne_eq,Uz9.1,hlc,hw1]
    exact ih y _ _ _ (by omega) ⟨by omega,hinv⟩ (by simp [keep,zm]) (by rw [List.take_of_length_le (Nat.le_refl _)]) rfl
def PartSF (C:CallW) (gF:FuncId) (qF:List AV) (cvF:Int→Int→Int) (f:FuncId):Prop:=∀(n:Nat) (d:Array Int) (a b p:Nat) S H (K:AV→St→Prop),AskC C gF qF cvF n n S H→S[n]? = some (flat iA d)→a≤p→p < b→b≤d.size→d.size≤2305843009213693952→K (.tup [.s (.int .i64 (Sort.partition (ltC cvF) d a b p).1),.s (.bool (Sort.partition (ltC cvF) d a b p).2.1)]) ⟨S.set n (flat iA (Sort.partition (ltC cvF) d a b p).2.2),H⟩→C (.fn f) [.row (.stk n) 0 d.size d.size,.s (.int .i64 a),.s (.int .i64 b),.s (.int .i64 p),.fn (.func gF) [] qF] ⟨S,H⟩ K
set_option maxHeartbeats 16000000 in
theorem partition_specF {C:CallW} (hC:LeC C C) (P:Program):∀(n:Nat) (d:Array Int) (a b p:Nat) S H (K:AV→St→Prop),AskC C gF qF cvF n n S H→S[n]? = some (flat iA d)→a≤p→p < b→b≤d.size→d.size≤2305843009213693952→K (.tup [.s (.int .i64 (Sort.partition (ltC cvF) d a b p).1),.s (.bool (Sort.partition (ltC cvF) d a b p).2.1)]) ⟨S.set n (flat iA (Sort.partition (ltC cvF) d a b p).2.2),H⟩→runL C P Cz7 [.row (.stk n) 0 d.size d.size,.s (.int .i64 a),.s (.int .i64 b),.s (.int .i64 p),.fn (.func gF) [] qF] ⟨S,H⟩ K:=by
  intro n d a b p S H K hAsk hS hap hpb hbd hdl hK
  have hqu:=hAsk.1 _ (Nat.le_refl _)
  have hn:=slt hS
  unfold Sort.partition at hK
  dsimp only at hK
  have hw0:IntKind.i64.wrap ((a:Int) + 1)=((a + 1:Nat):Int):=by rw [wrap_i64 (by omega) (by omega)]; omega
  have hw1:IntKind.i64.wrap ((b:Int) - 1)=((b - 1:Nat):Int):=by rw [wrap_i64 (by omega) (by omega)]; omega
  have xa:∀kk:IntKind,indexAddrL (.sl 1) (.row (.stk n) 0 d.size d.size) (.s (.int kk (a:Int)))=some (.ptr (.stk n) a):=fun kk=>ixi (by omega)
  have xb:∀kk:IntKind,indexAddrL (.sl 1) (.row (.stk n) 0 d.size d.size) (.s (.int kk (p:Int)))=some (.ptr (.stk n) p):=fun kk=>ixi (by omega)
  have ra:=ird (H:=H) hS (i:=a) (by omega)
  have rb:=ird (H:=H) hS (i:=p) (by omega)
  obtain ⟨wa,wb⟩:=sw2 (H:=H) hS (i:=a) (j:=p) (by omega) (by omega)
  simp only [Cz7,A_,simprocAttr,ne_eq,Uz9.1,hw0,hw1,xa,xb,ra,rb,wa,wb]
  have hds:(Sort.swp d a p).size=d.size:=swp_size
  generalize Sort.swp d a p=d1 at hK hds ⊢
  clear xa xb ra rb wa wb
  refine y23r2_loop (a:=a) hC P (by first | exact hAsk | exact hAsk.setn | exact hAsk.setn.setn | exact hAsk.setm | exact hAsk.setm.setm | exact hAsk.app) (sset hS) (by simp) hds (by omega) (j:=b - 1) (by omega) hdl (a + 1) _ (by omega) (by simp [keep,zm]) fun fr' hk' => ?_
  simp only [Cz7,A_,simprocAttr,ne_eq,Uz9.1]
  obtain ⟨u1,u2⟩:=scanUp_bd (fun x=>(ltC cvF) x d1[a]!) d1 (b - 1) _ (a + 1) (Nat.le_refl _)
  obtain ⟨i1,hi1⟩:∃i2,Sort.scanUp (fun x=>(ltC cvF) x d1[a]!) d1 (b - 1) (a + 1)=i2:=⟨_,rfl⟩
  rw [hi1] at hk' u1 u2
  simp only [hi1] at hK
  refine y23r4_loop (a:=a) hC P (by first | exact hAsk | exact hAsk.setn | exact hAsk.setn.setn | exact hAsk.setm | exact hAsk.setm.setm | exact hAsk.app) (sset hS) (by simp) hds (by omega) (by omega) hdl (b - 1) _ (by omega) hk' ?_
  have v1:=scanDown_le (fun x => !(ltC cvF) x d1[a]!) d1 i1 (b - 1)
  obtain ⟨j1,hj1⟩:∃j2,Sort.scanDown (fun x => !(ltC cvF) x d1[a]!) d1 i1 (b - 1)=j2:=⟨_,rfl⟩
  rw [hj1] at v1 ⊢
  simp only [hj1] at hK
  intro x50 x51 x52 x53 x54 x55 x56 x57 x58 x59 x60 x61 x62 x63 x64 x65 x66
  have hSd:(S.set n (flat iA d1))[n]? = some (flat iA d1):=sset hS
  by_cases hij:j1 < i1
  · have hlt:((j1:Int) < (i1:Int)):=by omega
    rw [if_pos hij] at hK
    have xa:∀kk:IntKind,indexAddrL (.sl 1) (.row (.stk n) 0 d.size d.size) (.s (.int kk (j1:Int)))=some (.ptr (.stk n) j1):=fun kk=>ixi (by omega)
    have xb:∀kk:IntKind,indexAddrL (.sl 1) (.row (.stk n) 0 d.size d.size) (.s (.int kk (a:Int)))=some (.ptr (.stk n) a):=fun kk=>ixi (by omega)
    have ra:=ird (H:=H) hSd (i:=j1) (by omega)
    have rb:=ird (H:=H) hSd (i:=a) (by omega)
    obtain ⟨wa,wb⟩:=sw2 (H:=H) hSd (i:=j1) (j:=a) (by omega) (by omega)
    rw [List.set_set] at wa wb
    rw [List.set_set] at wb
    simp only [Cz7,A_,simprocAttr,ne_eq,Uz9.1,hlt,xa,xb,ra,rb,wa,wb]
    exact hK
  have hlt:¬((j1:Int) < (i1:Int)):=by omega
  rw [if_neg hij] at hK
  have hwi:IntKind.i64.wrap ((i1:Int) + 1)=((i1 + 1:Nat):Int):=by rw [wrap_i64 (by omega) (by omega)]; omega
  have hwj:IntKind.i64.wrap ((j1:Int) - 1)=((j1 - 1:Nat):Int):=by rw [wrap_i64 (by omega) (by omega)]; omega
  have xa:∀kk:IntKind,indexAddrL (.sl 1) (.row (.stk n) 0 d.size d.size) (.s (.int kk (i1:Int)))=some (.ptr (.stk n) i1):=fun kk=>ixi (by omega)
  have xb:∀kk:IntKind,indexAddrL (.sl 1) (.row (.stk n) 0 d.size d.size) (.s (.int kk (j1:Int)))=some (.ptr (.stk n) j1):=fun kk=>ixi (by omega)
  have ra:=ird (H:=H) hSd (i:=i1) (by omega)
  have rb:=ird (H:=H) hSd (i:=j1) (by omega)
  obtain ⟨wa,wb⟩:=sw2 (H:=H) hSd (i:=i1) (j:=j1) (by omega) (by omega)
  rw [List.set_set] at wa wb
  rw [List.set_set] at wb
  simp only [Cz7,A_,simprocAttr,ne_eq,Uz9.1,hlt,xa,xb,ra,rb,wa,wb,hwi,hwj]
  have hgs:(Sort.swp d1 i1 j1).size=d.size:=by rw [swp_size]; exact hds
  generalize Sort.swp d1 i1 j1=g0 at hK hgs ⊢
  clear xa xb ra rb wa wb
  generalize hX:Sort.partLoop (ltC cvF) a (i1 + 1) (j1 - 1) g0=X at hK
  refine loop_rule hC (α:=Nat×Nat×Array Int) (fun x=>x.2.1 + 1 - x.1) (fun x=>[.row (.stk n) 0 d.size d.size,.s (.int .i64 a),uu,uu,.fn (.func gF) [] qF,uu,uu,uu,uu,uu,uu,uu,.s (.int .i64 (x.1:Nat)),.s (.int .i64 (x.2.1:Nat)),uu,uu,uu,uu,uu,uu,uu,uu,uu,uu,uu,uu,uu,uu,uu,uu,uu,uu,uu,uu,uu,uu,uu,uu,uu,uu,uu,uu,uu,uu,uu,uu,uu,uu,uu,uu,uu,uu,uu,uu,uu,uu,uu,uu,uu,uu,uu,uu,uu,uu,uu,uu,uu,uu,uu,uu,uu,uu,uu,uu,uu,uu,uu,uu,uu,uu,uu,uu,uu,uu,uu,uu,uu,uu,uu,uu,uu,uu,uu,uu,uu,uu,uu,uu,uu,uu,uu,uu,uu,uu,uu,uu,uu,uu,uu,uu,uu,uu,uu,uu,uu,uu,uu,uu,uu,uu,uu,uu,uu,uu,uu,uu,uu,uu,uu,uu,uu,uu,uu,uu,uu,uu,uu,uu,uu,uu,uu,uu,uu,uu,uu,uu,uu,uu,uu,uu,uu,uu,uu,uu,uu,uu,uu,uu,uu,uu,uu,uu,uu,uu,uu,uu,uu,uu,uu,uu,uu,uu,uu,uu,uu,uu,uu,uu]) (fun x=>S.set n (flat iA x.2.2)) (fun _=>H) (fun x=>1≤x.1∧x.1≤x.2.1 + 2∧x.2.1 < d.size∧x.2.2.size=d.size∧X=Sort.partLoop (ltC cvF) a x.1 x.2.1 x.2.2) (i1 + 1,j1 - 1,g0) ⟨by dsimp only; omega,by dsimp only; omega,by dsimp only; omega,hgs,hX.symm⟩ (by simp [keep,zm]) (by rw [List.take_of_length_le]; simp) rfl (fun x _=>by simp [AV.under,AV.under.go,hn,hqu]) ?_
  rintro ⟨i,j,e⟩ ⟨h1,h2,hj,hes,hinv⟩ ih
  dsimp only at h1 h2 hj hes hinv ih ⊢
  simp only [Cz7,A_,simprocAttr,ne_eq,Uz9.1]
  refine y23r8_loop (a:=a) hC P (by first | exact hAsk | exact hAsk.setn | exact hAsk.setn.setn | exact hAsk.setm | exact hAsk.setm.setm | exact hAsk.app) (sset hS) (by simp) hes (by omega) hj hdl i _ h2 (by simp [keep,zm]) fun fr' hk' => ?_
  simp only [Cz7,A_,simprocAttr,ne_eq,Uz9.1]
  obtain ⟨u1,u2⟩:=scanUp_bd (fun x=>(ltC cvF) x e[a]!) e j _ i (Nat.le_refl _)
  obtain ⟨i2,hi2⟩:∃i2,Sort.scanUp (fun x=>(ltC cvF) x e[a]!) e j i=i2:=⟨_,rfl⟩
  rw [hi2] at hk' u1 u2
  refine y23r10_loop (a:=a) hC P (by first | exact hAsk | exact hAsk.setn | exact hAsk.setn.setn | exact hAsk.setm | exact hAsk.setm.setm | exact hAsk.app) (sset hS) (by simp) hes (by omega) (by omega) hdl j _ hj hk' ?_
  have v1:=scanDown_le (fun x => !(ltC cvF) x e[a]!) e i2 j
  obtain ⟨j2,hj2⟩:∃j2,Sort.scanDown (fun x => !(ltC cvF) x e[a]!) e i2 j=j2:=⟨_,rfl⟩
  rw [hj2] at v1 ⊢
  intro x123 x124 x125 x126 x127 x128 x129 x130 x131 x132 x133 x134 x135 x136 x137 x138 x139
  rw [Sort.partLoop] at hinv
  simp only [hi2,hj2] at hinv
  have hSe:(S.set n (flat iA e))[n]? = some (flat iA e):=sset hS
  by_cases hij:j2 < i2
  · have hlt:((j2:Int) < (i2:Int)):=by omega
    rw [if_pos hij] at hinv
    rw [hinv] at hK
    have xa:∀kk:IntKind,indexAddrL (.sl 1) (.row (.stk n) 0 d.size d.size) (.s (.int kk (j2:Int)))=some (.ptr (.stk n) j2):=fun kk=>ixi (by omega)
    have xb:∀kk:IntKind,indexAddrL (.sl 1) (.row (.stk n) 0 d.size d.size) (.s (.int kk (a:Int)))=some (.ptr (.stk n) a):=fun kk=>ixi (by omega)
    have ra:=ird (H:=H) hSe (i:=j2) (by omega)
    have rb:=ird (H:=H) hSe (i:=a) (by omega)
    obtain ⟨wa,wb⟩:=sw2 (H:=H) hSe (i:=j2) (j:=a) (by omega) (by omega)
    rw [List.set_set] at wa wb
    rw [List.set_set] at wb
    simp only [Cz7,A_,simprocAttr,ne_eq,Uz9.1,hlt,xa,xb,ra,rb,wa,wb]
    exact hK
  have hlt:¬((j2:Int) < (i2:Int)):=by omega
  rw [if_neg hij,dif_pos (by omega)] at hinv
  have hwi:IntKind.i64.wrap ((i2:Int) + 1)=((i2 + 1:Nat):Int):=by rw [wrap_i64 (by omega) (by omega)]; omega
  have hwj:IntKind.i64.wrap ((j2:Int) - 1)=((j2 - 1:Nat):Int):=by rw [wrap_i64 (by omega) (by omega)]; omega
  have xa:∀kk:IntKind,indexAddrL (.sl 1) (.row (.stk n) 0 d.size d.size) (.s (.int kk (i2:Int)))=some (.ptr (.stk n) i2):=fun kk=>ixi (by omega)
  have xb:∀kk:IntKind,indexAddrL (.sl 1) (.row (.stk n) 0 d.size d.size) (.s (.int kk (j2:Int)))=some (.ptr (.stk n) j2):=fun kk=>ixi (by omega)
  have ra:=ird (H:=H) hSe (i:=i2) (by omega)
  have rb:=ird (H:=H) hSe (i:=j2) (by omega)
  obtain ⟨wa,wb⟩:=sw2 (H:=H) hSe (i:=i2) (j:=j2) (by omega) (by omega)
  rw [List.set_set] at wa wb
  rw [List.set_set] at wb
  simp only [Cz7,A_,simprocAttr,ne_eq,Uz9.1,hlt,xa,xb,ra,rb,wa,wb,hwi,hwj]
  exact ih (i2 + 1,j2 - 1,Sort.swp e i2 j2) _ _ _ (by dsimp only; omega) ⟨by dsimp only; omega,by dsimp only; omega,by dsimp only; omega,by rw [swp_size]; exact hes,hinv⟩ (by simp [keep,zm]) (by rw [List.take_of_length_le]; simp) rfl
end Go.AM
namespace Go.AM
open Go
open AV renaming undef → uu
set_option maxRecDepth 20000
variable {gF:FuncId} {qF:List AV} {cvF:Int→Int→Int}
theorem shiftDown_sizeF:∀(j:Nat) (d:Array Int),(Sort.shiftDown (ltC cvF) j d).size=d.size
  | 0,d=>rfl
  | j + 1,d=>by
    rw [Sort.shiftDown]
    split
    · rfl
    · rw [shiftDown_sizeF j,swp_size]
theorem shiftUp_sizeF (b:Nat):∀(m j:Nat) (d:Array Int),b - j≤m→(Sort.shiftUp (ltC cvF) b j d).size=d.size:=by
  intro m
  induction m with
  | zero=>intro j d h; rw [Sort.shiftUp,if_neg (by omega)]
  | succ m ih =>
    intro j d h
    rw [Sort.shiftUp]
    split
    · split
      · rfl
      · rw [ih _ _ (by omega),swp_size]
    · rfl
theorem scanSorted_bdF (d:Array Int) (b:Nat):∀(m i:Nat),b - i≤m→i≤b→i≤Sort.scanSorted (ltC cvF) d b i∧Sort.scanSorted (ltC cvF) d b i≤b:=by
  intro m
  induction m with
  | zero=>intro i h hi; rw [Sort.scanSorted,if_neg (by rw [Bool.and_eq_true,decide_eq_true_eq]; exact fun h=>by omega)]; exact ⟨Nat.le_refl _,hi⟩
  | succ m ih =>
    intro i h hi
    rw [Sort.scanSorted]
    split
    · rename_i h1
      rw [Bool.and_eq_true,decide_eq_true_eq] at h1
      have:=ih (i + 1) (by omega) (by omega)
      omega
    · exact ⟨Nat.le_refl _,hi⟩
set_option maxHeartbeats 16000000 in
theorem y23p2_loop {C:CallW} (hC:LeC C C) (P:Program) {n a b N st n0:Nat} {e:Array Int} {S:List (List AV)} {H:List HObj} {is:List Item} {K:KC} (hAsk:AskC C gF qF cvF n n S H) (hS:S[n]? = some (flat iA e)) (hn0:n0=S.length) (hN:e.size=N) (hb:b≤N) (hl:N≤2305843009213693952):∀(i:Nat) (fr:Fr),1≤i→i≤b→keep (zm false [0,4,5,2,130]) fr=[.row (.stk n) 0 N N,.s (.int .i64 (a:Nat)),.s (.int .i64 (b:Nat)),.fn (.func gF) [] qF,uu,uu,uu,uu,uu,.s (.int .i64 (i:Nat)),.s (.int .i64 (st:Nat)),uu,uu,uu,uu,uu,uu,uu,uu,uu,uu,uu,uu,uu,uu,uu,uu,uu,uu,uu,uu,uu,uu,uu,uu,uu,uu,uu,uu,uu,uu,uu,uu,uu,uu,uu,uu,uu,uu,uu,uu,uu,uu,uu,uu,uu,uu,uu,uu,uu,uu,uu,uu,uu,uu,uu,uu,uu,uu,uu,uu,uu,uu,uu,uu,uu,uu,uu,uu,uu,uu,uu,uu,uu,uu,uu,uu,uu,uu,uu,uu,uu,uu,uu,uu,uu,uu,uu,uu,uu,uu,uu,uu,uu,uu,uu,uu,uu,uu,uu,uu,uu,uu,uu,uu,uu,uu,uu,uu,uu,uu,uu,uu,uu,uu,uu,uu,uu,uu,uu,uu,uu,uu,uu,uu,uu,uu,uu,uu,uu,uu]→(∀x19 x20 x21 x22 x23 x24 x25 x26 x27 x28 x29 x30 x31 x32 x33 x34 x35 x36:AV,nxt C P false is [.row (.stk n) 0 N N,.s (.int .i64 (a:Nat)),.s (.int .i64 (b:Nat)),.fn (.func gF) [] qF,uu,uu,uu,uu,uu,.s (.int .i64 (Sort.scanSorted (ltC cvF) e b i:Nat)),.s (.int .i64 (st:Nat)),uu,uu,uu,uu,uu,uu,uu,uu,x19,x20,x21,x22,x23,x24,x25,x26,x27,x28,x29,x30,x31,x32,x33,x34,x35,x36,uu,uu,uu,uu,uu,uu,uu,uu,uu,uu,uu,uu,uu,uu,uu,uu,uu,uu,uu,uu,uu,uu,uu,uu,uu,uu,uu,uu,uu,uu,uu,uu,uu,uu,uu,uu,uu,uu,uu,uu,uu,uu,uu,uu,uu,uu,uu,uu,uu,uu,uu,uu,uu,uu,uu,uu,uu,uu,uu,uu,uu,uu,uu,uu,uu,uu,uu,uu,uu,uu,uu,uu,uu,uu,uu,uu,uu,uu,uu,uu,uu,uu,uu,uu,uu,uu,uu,uu,uu,uu,uu,uu,uu,uu,uu,uu,uu,uu,uu,uu,uu,uu,uu,uu] ⟨S,H⟩ K)→runLp C P false (zm false [0,4,5,2,130]) y23j2 n0 (.blk 2 :: is) fr ⟨S,H⟩ K:=by
  intro i fr hi1 hi hk hX
  generalize hR:Sort.scanSorted (ltC cvF) e b i=R at hX
  subst hn0
  have hqu:=hAsk.1 _ (Nat.le_refl _)
  have hn:=slt hS
  refine loop_rule hC (α:=Nat) (fun x=>b - x) (fun x=>[.row (.stk n) 0 N N,.s (.int .i64 (a:Nat)),.s (.int .i64 (b:Nat)),.fn (.func gF) [] qF,uu,uu,uu,uu,uu,.s (.int .i64 (x:Nat)),.s (.int .i64 (st:Nat)),uu,uu,uu,uu,uu,uu,uu,uu,uu,uu,uu,uu,uu,uu,uu,uu,uu,uu,uu,uu,uu,uu,uu,uu,uu,uu,uu,uu,uu,uu,uu,uu,uu,uu,uu,uu,uu,uu,uu,uu,uu,uu,uu,uu,uu,uu,uu,uu,uu,uu,uu,uu,uu,uu,uu,uu,uu,uu,uu,uu,uu,uu,uu,uu,uu,uu,uu,uu,uu,uu,uu,uu,uu,uu,uu,uu,uu,uu,uu,uu,uu,uu,uu,uu,uu,uu,uu,uu,uu,uu,uu,uu,uu,uu,uu,uu,uu,uu,uu,uu,uu,uu,uu,uu,uu,uu,uu,uu,uu,uu,uu,uu,uu,uu,uu,uu,uu,uu,uu,uu,uu,uu,uu,uu,uu,uu,uu,uu,uu,uu]) (fun _=>S) (fun _=>H) (fun x=>1≤x∧x≤b∧R=Sort.scanSorted (ltC cvF) e b x) i ⟨hi1,hi,hR.symm⟩ hk (by rw [List.take_of_length_le (Nat.le_refl _)]) rfl (fun x _=>by simp [AV.under,AV.under.go,hn,hqu]) ?_
  rintro x ⟨hx1,hx,hinv⟩ ih
  by_cases hxb:x < b
  case neg =>
    have hlt:¬((x:Int) < (b:Int)):=by omega
    rw [Sort.scanSorted,if_neg (by rw [Bool.and_eq_true,decide_eq_true_eq]; exact fun h=>hxb h.1)] at hinv
    rw [hinv] at hX
    simp only [Cz1,A_,simprocAttr,ne_eq,Uz4.1,hlt]
    exact hX _ _ _ _ _ _ _ _ _ _ _ _ _ _ _ _ _ _
  have hlt:((x:Int) < (b:Int)):=by omega
  obtain ⟨y,rfl⟩:∃y,x=y + 1:=⟨x - 1,by omega⟩
  have hw0:IntKind.i64.wrap (((y + 1:Nat):Int) - 1)=((y:Nat):Int):=by rw [wrap_i64 (by omega) (by omega)]; omega
  have hw1:IntKind.i64.wrap (((y + 1:Nat):Int) + 1)=((y + 1 + 1:Nat):Int):=by rw [wrap_i64 (by omega) (by omega)]; omega
  have x1:∀kk:IntKind,indexAddrL (.sl 1) (.row (.stk n) 0 N N) (.s (.int kk ((y + 1:Nat):Int)))=some (.ptr (.stk n) (y + 1)):=fun kk=>ixi (by omega)
  have x2:∀kk:IntKind,indexAddrL (.sl 1) (.row (.stk n) 0 N N) (.s (.int kk ((y:Nat):Int)))=some (.ptr (.stk n) y):=fun kk=>ixi (by omega)
  have r1:=ird (H:=H) hS (i:=y + 1) (by omega)
  have r2:=ird (H:=H) hS (i:=y) (by omega)
  simp only [Cz1,A_,simprocAttr,ne_eq,Uz4.1,hlt,hw0,x1,x2,r1,r2]
  refine hAsk.2 _ _ _ _ (by first | exact fun _ _ _ _=>rfl | exact fun i _ h _=>List.getElem?_set_ne (Ne.symm h)) ?_
  cases hlk:(ltC cvF) e[y + 1]! e[y]! with
  | true =>
    have hlc:=ltC_t hlk
    rw [Sort.scanSorted,if_neg (by rw [Nat.add_sub_cancel,Bool.and_eq_true,hlk]; simp)] at hinv
    rw [hinv] at hX
    simp only [Cz1,A_,simprocAttr,ne_eq,Uz4.1,hlc]
    exact hX _ _ _ _ _ _ _ _ _ _ _ _ _ _ _ _ _ _
  | false =>
    have hlc:=ltC_f hlk
    rw [Sort.scanSorted,if_pos (by rw [Nat.add_sub_cancel,Bool.and_eq_true,hlk]; exact ⟨decide_eq_true hxb,rfl⟩)] at hinv
    simp only [Cz1,A_,simprocAttr,ne_eq,Uz4.1,hlc,hw1]
    exact ih (y + 1 + 1) _ _ _ (by omega) ⟨by omega,by omega,hinv⟩ (by simp [keep,zm]; omega) (by rw [List.take_of_length_le (Nat.le_refl _)]) rfl
set_option maxHeartbeats 16000000 in
theorem y23p6_loop {C:CallW} (hC:LeC C C) (P:Program) {n a b i N st n0:Nat} {S:List (List AV)} {H:List HObj} {is:List Item} {K:KC} (hAsk:AskC C gF qF cvF n n S H) (hn:n < S.length) (hn0:n0=S.length) (hl:N≤2305843009213693952):∀(j:Nat) (d:Array Int) (fr:Fr),j < N→d.size=N→keep (zm false [0,4,5,3,129]) fr=[.row (.stk n) 0 N N,.s (.int .i64 (a:Nat)),.s (.int .i64 (b:Nat)),.fn (.func gF) [] qF,uu,uu,uu,uu,uu,.s (.int .i64 (i:Nat)),.s (.int .i64 (st:Nat)),.s (.int .i64 (j:Nat)),uu,uu,uu,uu,uu,uu,uu,uu,uu,uu,uu,uu,uu,uu,uu,uu,uu,uu,uu,uu,uu,uu,uu,uu,uu,uu,uu,uu,uu,uu,uu,uu,uu,uu,uu,uu,uu,uu,uu,uu,uu,uu,uu,uu,uu,uu,uu,uu,uu,uu,uu,uu,uu,uu,uu,uu,uu,uu,uu,uu,uu,uu,uu,uu,uu,uu,uu,uu,uu,uu,uu,uu,uu,uu,uu,uu,uu,uu,uu,uu,uu,uu,uu,uu,uu,uu,uu,uu,uu,uu,uu,uu,uu,uu,uu,uu,uu,uu,uu,uu,uu,uu,uu,uu,uu,uu,uu,uu,uu,uu,uu,uu,uu,uu,uu,uu,uu,uu,uu,uu,uu,uu,uu,uu,uu,uu,uu,uu,uu]→(∀x11 x68 x69 x70 x71 x72 x73 x74 x75 x76 x77 x78 x79 x80 x81 x82 x83 x84:AV,nxt C P false is [.row (.stk n) 0 N N,.s (.int .i64 (a:Nat)),.s (.int .i64 (b:Nat)),.fn (.func gF) [] qF,uu,uu,uu,uu,uu,.s (.int .i64 (i:Nat)),.s (.int .i64 (st:Nat)),x11,uu,uu,uu,uu,uu,uu,uu,uu,uu,uu,uu,uu,uu,uu,uu,uu,uu,uu,uu,uu,uu,uu,uu,uu,uu,uu,uu,uu,uu,uu,uu,uu,uu,uu,uu,uu,uu,uu,uu,uu,uu,uu,uu,uu,uu,uu,uu,uu,uu,uu,uu,uu,uu,uu,uu,uu,x68,x69,x70,x71,x72,x73,x74,x75,x76,x77,x78,x79,x80,x81,x82,x83,x84,uu,uu,uu,uu,uu,uu,uu,uu,uu,uu,uu,uu,uu,uu,uu,uu,uu,uu,uu,uu,uu,uu,uu,uu,uu,uu,uu,uu,uu,uu,uu,uu,uu,uu,uu,uu,uu,uu,uu,uu,uu,uu,uu,uu,uu,uu,uu,uu,uu,uu,uu,uu,uu,uu,uu,uu] ⟨S.set n (flat iA (Sort.shiftDown (ltC cvF) j d)),H⟩ K)→runLp C P false (zm false [0,4,5,3,129]) y23j6 n0 (.blk 4 :: is) fr ⟨S.set n (flat iA d),H⟩ K:=by
  intro j d fr hj hd hk hX
  generalize hR:Sort.shiftDown (ltC cvF) j d=R at hX
  subst hn0
  have hqu:=hAsk.1 _ (Nat.le_refl _)
  obtain ⟨z,hz⟩:∃z,S[n]? = some z:=⟨_,List.getElem?_eq_getElem hn⟩
  refine loop_rule hC (α:=Nat×Array Int) (fun x=>x.1) (fun x=>[.row (.stk n) 0 N N,.s (.int .i64 (a:Nat)),.s (.int .i64 (b:Nat)),.fn (.func gF) [] qF,uu,uu,uu,uu,uu,.s (.int .i64 (i:Nat)),.s (.int .i64 (st:Nat)),.s (.int .i64 (x.1:Nat)),uu,uu,uu,uu,uu,uu,uu,uu,uu,uu,uu,uu,uu,uu,uu,uu,uu,uu,uu,uu,uu,uu,uu,uu,uu,uu,uu,uu,uu,uu,uu,uu,uu,uu,uu,uu,uu,uu,uu,uu,uu,uu,uu,uu,uu,uu,uu,uu,uu,uu,uu,uu,uu,uu,uu,uu,uu,uu,uu,uu,uu,uu,uu,uu,uu,uu,uu,uu,uu,uu,uu,uu,uu,uu,uu,uu,uu,uu,uu,uu,uu,uu,uu,uu,uu,uu,uu,uu,uu,uu,uu,uu,uu,uu,uu,uu,uu,uu,uu,uu,uu,uu,uu,uu,uu,uu,uu,uu,uu,uu,uu,uu,uu,uu,uu,uu,uu,uu,uu,uu,uu,uu,uu,uu,uu,uu,uu,uu,uu]) (fun x=>S.set n (flat iA x.2)) (fun _=>H) (fun x=>x.1 < N∧x.2.size=N∧R=Sort.shiftDown (ltC cvF) x.1 x.2) (j,d) ⟨hj,hd,hR.symm⟩ hk (by rw [List.take_of_length_le]; simp) rfl (fun x _=>by simp [AV.under,AV.under.go,hn,hqu]) ?_
  rintro ⟨x,e⟩ ⟨hx,hes,hinv⟩ ih
  dsimp only at hx hes hinv ih ⊢
  have hSe:(S.set n (flat iA e))[n]? = some (flat iA e):=sset hz
  cases x with
  | zero =>
    have hlt:((1:Int)≤((0:Nat):Int))=False:=eq_false (by omega)
    have hlt2:((1:Int)≤0)=False:=eq_false (by omega)
    rw [Sort.shiftDown] at hinv
    rw [hinv] at hX
    simp only [Cz1,A_,simprocAttr,ne_eq,Uz4.1,hlt,hlt2]
    exact hX _ _ _ _ _ _ _ _ _ _ _ _ _ _ _ _ _ _
  | succ y =>
    have hlt:((1:Int)≤((y + 1:Nat):Int))=True:=eq_true (by omega)
    have hw0:IntKind.i64.wrap (((y + 1:Nat):Int) - 1)=((y:Nat):Int):=by rw [wrap_i64 (by omega) (by omega)]; omega
    have xa:∀kk:IntKind,indexAddrL (.sl 1) (.row (.stk n) 0 N N) (.s (.int kk ((y + 1:Nat):Int)))=some (.ptr (.stk n) (y + 1)):=fun kk=>ixi (by omega)
    have xb:∀kk:IntKind,indexAddrL (.sl 1) (.row (.stk n) 0 N N) (.s (.int kk ((y:Nat):Int)))=some (.ptr (.stk n) (y)):=fun kk=>ixi (by omega)
    have ra:=ird (H:=H) hSe (i:=y + 1) (by omega)
    have rb:=ird (H:=H) hSe (i:=y) (by omega)
    obtain ⟨wa,wb⟩:=sw2 (H:=H) hSe (i:=y + 1) (j:=y) (by omega) (by omega)
    rw [List.set_set] at wa wb
    rw [List.set_set] at wb
    simp only [Cz1,A_,simprocAttr,ne_eq,Uz4.1,hlt,hw0,xa,xb,ra,rb]
    refine hAsk.2 _ _ _ _ (by first | exact fun _ _ _ _=>rfl | exact fun i _ h _=>List.getElem?_set_ne (Ne.symm h)) ?_
    rw [Sort.shiftDown] at hinv
    cases hlk:(ltC cvF) e[y + 1]! e[y]! with
    | false =>
      have hlc:=ltC_f hlk
      rw [hlk,if_pos (by rfl)] at hinv
      rw [hinv] at hX
      simp only [Cz1,A_,simprocAttr,ne_eq,Uz4.1,hlc]
      exact hX _ _ _ _ _ _ _ _ _ _ _ _ _ _ _ _ _ _
    | true =>
      have hlc:=ltC_t hlk
      rw [hlk,if_neg (by simp)] at hinv
      simp only [Cz1,A_,simprocAttr,ne_eq,Uz4.1,hlc,hw0,xa,xb,ra,rb,wa,wb]
      exact ih (y,Sort.swp e (y + 1) y) _ _ _ (by dsimp only; omega) ⟨by dsimp only; omega,by rw [swp_size]; exact hes,hinv⟩ (by simp [keep,zm]) (by rw [List.take_of_length_le]; simp) rfl
set_option maxHeartbeats 16000000 in
theorem y23p12_loop {C:CallW} (hC:LeC C C) (P:Program) {n a b i N st n0:Nat} {S:List (List AV)} {H:List HObj} {is:List Item} {K:KC} (hAsk:AskC C gF qF cvF n n S H) (hn:n < S.length) (hn0:n0=S.length) (hb:b≤N) (hl:N≤2305843009213693952):∀(j:Nat) (d:Array Int) (fr:Fr),1≤j→j≤b→d.size=N→keep (zm false [0,4,5,2,1,1,128]) fr=[.row (.stk n) 0 N N,.s (.int .i64 (a:Nat)),.s (.int .i64 (b:Nat)),.fn (.func gF) [] qF,uu,uu,uu,uu,uu,.s (.int .i64 (i:Nat)),.s (.int .i64 (st:Nat)),.undef,.s (.int .i64 (j:Nat)),uu,uu,uu,uu,uu,uu,uu,uu,uu,uu,uu,uu,uu,uu,uu,uu,uu,uu,uu,uu,uu,uu,uu,uu,uu,uu,uu,uu,uu,uu,uu,uu,uu,uu,uu,uu,uu,uu,uu,uu,uu,uu,uu,uu,uu,uu,uu,uu,uu,uu,uu,uu,uu,uu,uu,uu,uu,uu,uu,uu,uu,uu,uu,uu,uu,uu,uu,uu,uu,uu,uu,uu,uu,uu,uu,uu,uu,uu,uu,uu,uu,uu,uu,uu,uu,uu,uu,uu,uu,uu,uu,uu,uu,uu,uu,uu,uu,uu,uu,uu,uu,uu,uu,uu,uu,uu,uu,uu,uu,uu,uu,uu,uu,uu,uu,uu,uu,uu,uu,uu,uu,uu,uu,uu,uu,uu,uu,uu]→(∀x12 x107 x108 x109 x110 x111 x112 x113 x114 x115 x116 x117 x118 x119 x120 x121 x122 x123 x124:AV,nxt C P false is [.row (.stk n) 0 N N,.s (.int .i64 (a:Nat)),.s (.int .i64 (b:Nat)),.fn (.func gF) [] qF,uu,uu,uu,uu,uu,.s (.int .i64 (i:Nat)),.s (.int .i64 (st:Nat)),.undef,x12,uu,uu,uu,uu,uu,uu,uu,uu,uu,uu,uu,uu,uu,uu,uu,uu,uu,uu,uu,uu,uu,uu,uu,uu,uu,uu,uu,uu,uu,uu,uu,uu,uu,uu,uu,uu,uu,uu,uu,uu,uu,uu,uu,uu,uu,uu,uu,uu,uu,uu,uu,uu,uu,uu,uu,uu,uu,uu,uu,uu,uu,uu,uu,uu,uu,uu,uu,uu,uu,uu,uu,uu,uu,uu,uu,uu,uu,uu,uu,uu,uu,uu,uu,uu,uu,uu,uu,uu,uu,uu,uu,uu,uu,uu,x107,x108,x109,x110,x111,x112,x113,x114,x115,x116,x117,x118,x119,x120,x121,x122,x123,x124,uu,uu,uu,uu,uu,uu,uu,uu,uu,uu,uu,uu,uu,uu,uu,uu] ⟨S.set n (flat iA (Sort.shiftUp (ltC cvF) b j d)),H⟩ K)→runLp C P false (zm false [0,4,5,2,1,1,128]) y23j12 n0 (.blk 6 :: is) fr ⟨S.set n (flat iA d),H⟩ K:=by
  intro j d fr hj1 hj hd hk hX
  generalize hR:Sort.shiftUp (ltC cvF) b j d=R at hX
  subst hn0
  have hqu:=hAsk.1 _ (Nat.le_refl _)
  obtain ⟨z,hz⟩:∃z,S[n]? = some z:=⟨_,List.getElem?_eq_getElem hn⟩
  refine loop_rule hC (α:=Nat×Array Int) (fun x=>b - x.1) (fun x=>[.row (.stk n) 0 N N,.s (.int .i64 (a:Nat)),.s (.int .i64 (b:Nat)),.fn (.func gF) [] qF,uu,uu,uu,uu,uu,.s (.int .i64 (i:Nat)),.s (.int .i64 (st:Nat)),.undef,.s (.int .i64 (x.1:Nat)),uu,uu,uu,uu,uu,uu,uu,uu,uu,uu,uu,uu,uu,uu,uu,uu,uu,uu,uu,uu,uu,uu,uu,uu,uu,uu,uu,uu,uu,uu,uu,uu,uu,uu,uu,uu,uu,uu,uu,uu,uu,uu,uu,uu,uu,uu,uu,uu,uu,uu,uu,uu,uu,uu,uu,uu,uu,uu,uu,uu,uu,uu,uu,uu,uu,uu,uu,uu,uu,uu,uu,uu,uu,uu,uu,uu,uu,uu,uu,uu,uu,uu,uu,uu,uu,uu,uu,uu,uu,uu,uu,uu,uu,uu,uu,uu,uu,uu,uu,uu,uu,uu,uu,uu,uu,uu,uu,uu,uu,uu,uu,uu,uu,uu,uu,uu,uu,uu,uu,uu,uu,uu,uu,uu,uu,uu,uu,uu]) (fun x=>S.set n (flat iA x.2)) (fun _=>H) (fun x=>1≤x.1∧x.1≤b∧x.2.size=N∧R=Sort.shiftUp (ltC cvF) b x.1 x.2) (j,d) ⟨hj1,hj,hd,hR.symm⟩ hk (by rw [List.take_of_length_le]; simp) rfl (fun x _=>by simp [AV.under,AV.under.go,hn,hqu]) ?_
  rintro ⟨x,e⟩ ⟨hx1,hx,hes,hinv⟩ ih
  dsimp only at hx1 hx hes hinv ih ⊢
  have hSe:(S.set n (flat iA e))[n]? = some (flat iA e):=sset hz
  rw [Sort.shiftUp] at hinv
  by_cases hxb:x < b
  case neg =>
    have hlt:¬((x:Int) < (b:Int)):=by omega
    rw [if_neg hxb] at hinv
    rw [hinv] at hX
    simp only [Cz1,A_,simprocAttr,ne_eq,Uz4.1,hlt]
    exact hX _ _ _ _ _ _ _ _ _ _ _ _ _ _ _ _ _ _ _
  have hlt:((x:Int) < (b:Int)):=by omega
  rw [if_pos hxb] at hinv
  obtain ⟨y,rfl⟩:∃y,x=y + 1:=⟨x - 1,by omega⟩
  rw [Nat.add_sub_cancel] at hinv
  have hw0:IntKind.i64.wrap (((y + 1:Nat):Int) - 1)=((y:Nat):Int):=by rw [wrap_i64 (by omega) (by omega)]; omega
  have hw1:IntKind.i64.wrap (((y + 1:Nat):Int) + 1)=((y + 1 + 1:Nat):Int):=by rw [wrap_i64 (by omega) (by omega)]; omega
  have xa:∀kk:IntKind,indexAddrL (.sl 1) (.row (.stk n) 0 N N) (.s (.int kk ((y + 1:Nat):Int)))=some (.ptr (.stk n) (y + 1)):=fun kk=>ixi (by omega)
  have xb:∀kk:IntKind,indexAddrL (.sl 1) (.row (.stk n) 0 N N) (.s (.int kk ((y:Nat):Int)))=some (.ptr (.stk n) (y)):=fun kk=>ixi (by omega)
  have ra:=ird (H:=H) hSe (i:=y + 1) (by omega)
  have rb:=ird (H:=H) hSe (i:=y) (by omega)
  obtain ⟨wa,wb⟩:=sw2 (H:=H) hSe (i:=y + 1) (j:=y) (by omega) (by omega)
  rw [List.set_set] at wa wb
  rw [List.set_set] at wb
  simp only [Cz1,A_,simprocAttr,ne_eq,Uz4.1,hlt,hw0,xa,xb,ra,rb]
  refine hAsk.2 _ _ _ _ (by first | exact fun _ _ _ _=>rfl | exact fun i _ h _=>List.getElem?_set_ne (Ne.symm h)) ?_
  cases hlk:(ltC cvF) e[y + 1]! e[y]! with
  | false =>
    have hlc:=ltC_f hlk
    rw [hlk,if_pos (by rfl)] at hinv
    rw [hinv] at hX
    simp only [Cz1,A_,simprocAttr,ne_eq,Uz4.1,hlc]
    exact hX _ _ _ _ _ _ _ _ _ _ _ _ _ _ _ _ _ _ _
  | true =>
    have hlc:=ltC_t hlk
    rw [hlk,if_neg (by simp)] at hinv
    simp only [Cz1,A_,simprocAttr,ne_eq,Uz4.1,hlc,hw0,hw1,xa,xb,ra,rb,wa,wb]
    exact ih (y + 1 + 1,Sort.swp e (y + 1) y) _ _ _ (by dsimp only; omega) ⟨by dsimp only; omega,by dsimp only; omega,by rw [swp_size]; exact hes,hinv⟩ (by simp [keep,zm]; omega) (by rw [List.take_of_length_le]; simp) rfl
def PinSF (C:CallW) (gF:FuncId) (qF:List AV) (cvF:Int→Int→Int) (f:FuncId):Prop:=∀(n:Nat) (d:Array Int) (a b:Nat) S H (K:AV→St→Prop),AskC C gF qF cvF n n S H→S[n]? = some (flat iA d)→a < b→b≤d.size→d.size≤2305843009213693952→K (.bool (Sort.partialInsertionSort (ltC cvF) d a b).2) ⟨S.set n (flat iA (Sort.partialInsertionSort (ltC cvF) d a b).1),H⟩→C (.fn f) [.row (.stk n) 0 d.size d.size,.s (.int .i64 a),.s (.int .i64 b),.fn (.func gF) [] qF] ⟨S,H⟩ K
set_option maxHeartbeats 16000000 in
theorem partialIns_specF {C:CallW} (hC:LeC C C) (P:Program):∀(n:Nat) (d:Array Int) (a b:Nat) S H (K:AV→St→Prop),AskC C gF qF cvF n n S H→S[n]? = some (flat iA d)→a < b→b≤d.size→d.size≤2305843009213693952→K (.bool (Sort.partialInsertionSort (ltC cvF) d a b).2) ⟨S.set n (flat iA (Sort.partialInsertionSort (ltC cvF) d a b).1),H⟩→runL C P Cz1 [.row (.stk n) 0 d.size d.size,.s (.int .i64 a),.s (.int .i64 b),.fn (.func gF) [] qF] ⟨S,H⟩ K:=by
  intro n d a b S H K hAsk hS hab hbd hdl hK
  have hqu:=hAsk.1 _ (Nat.le_refl _)
  have hn:=slt hS
  unfold Sort.partialInsertionSort at hK
  generalize hX:Sort.partialIns (ltC cvF) a b 5 (a + 1) d=X at hK
  have hw0:IntKind.i64.wrap ((a:Int) + 1)=((a + 1:Nat):Int):=by rw [wrap_i64 (by omega) (by omega)]; omega
  obtain ⟨N,hN⟩:∃N,d.size=N:=⟨_,rfl⟩
  rw [hN] at hbd hdl ⊢
  simp only [Cz1,A_,simprocAttr,ne_eq,Uz4.1,hw0]
  refine loop_rule hC (α:=Nat×Nat×Array Int) (fun x=>x.1) (fun x=>[.row (.stk n) 0 N N,.s (.int .i64 (a:Nat)),.s (.int .i64 (b:Nat)),.fn (.func gF) [] qF,uu,uu,uu,uu,uu,.s (.int .i64 (x.2.1:Nat)),.s (.int .i64 ((5 - x.1:Nat):Int)),uu,uu,uu,uu,uu,uu,uu,uu,uu,uu,uu,uu,uu,uu,uu,uu,uu,uu,uu,uu,uu,uu,uu,uu,uu,uu,uu,uu,uu,uu,uu,uu,uu,uu,uu,uu,uu,uu,uu,uu,uu,uu,uu,uu,uu,uu,uu,uu,uu,uu,uu,uu,uu,uu,uu,uu,uu,uu,uu,uu,uu,uu,uu,uu,uu,uu,uu,uu,uu,uu,uu,uu,uu,uu,uu,uu,uu,uu,uu,uu,uu,uu,uu,uu,uu,uu,uu,uu,uu,uu,uu,uu,uu,uu,uu,uu,uu,uu,uu,uu,uu,uu,uu,uu,uu,uu,uu,uu,uu,uu,uu,uu,uu,uu,uu,uu,uu,uu,uu,uu,uu,uu,uu,uu,uu,uu,uu,uu,uu,uu]) (fun x=>S.set n (flat iA x.2.2)) (fun _=>H) (fun x=>x.1≤5∧1≤x.2.1∧a < x.2.1∧x.2.1≤b∧x.2.2.size=N∧X=Sort.partialIns (ltC cvF) a b x.1 x.2.1 x.2.2) (5,a + 1,d) ⟨by dsimp only; omega,by dsimp only; omega,by dsimp only; omega,by dsimp only; omega,hN,hX.symm⟩ (by simp [keep,zm]) (by rw [sself hS,List.take_of_length_le (Nat.le_refl _)]) rfl (fun x _=>by simp [AV.under,AV.under.go,hn,hqu]) ?_
  rintro ⟨s,i,e⟩ ⟨hs,hi1,hai,hi,hes,hinv⟩ ih
  dsimp only at hs hi1 hai hi hes hinv ih ⊢
  cases s with
  | zero =>
    have hlt:(((5 - 0:Nat):Int) < 5)=False:=eq_false (by omega)
    have hlt2:(((5:Nat):Int) < 5)=False:=eq_false (by omega)
    rw [Sort.partialIns] at hinv
    rw [hinv] at hK
    simp only [Cz1,A_,simprocAttr,ne_eq,Uz4.1,hlt,hlt2]
    exact hK
  | succ s =>
    obtain ⟨st,hst⟩:∃st,5 - (s + 1)=st:=⟨_,rfl⟩
    have hlt:((st:Int) < 5)=True:=eq_true (by omega)
    have hws:IntKind.i64.wrap ((st:Int) + 1)=((5 - s:Nat):Int):=by rw [wrap_i64 (by omega) (by omega)]; omega
    rw [Sort.partialIns] at hinv
    dsimp only at hinv
    simp only [Cz1,A_,simprocAttr,ne_eq,Uz4.1,hst,hlt]
    refine y23p2_loop (a:=a) (b:=b) (st:=st) hC P (by first | exact hAsk | exact hAsk.setn | exact hAsk.setn.setn | exact hAsk.setm | exact hAsk.setm.setm | exact hAsk.app) (sset hS) (by simp) hes hbd hdl i _ hi1 hi (by simp [keep,zm]) ?_
    obtain ⟨u1,u2⟩:=scanSorted_bdF e b _ i (Nat.le_refl _) hi
    obtain ⟨k,hk⟩:∃k,Sort.scanSorted (ltC cvF) e b i=k:=⟨_,rfl⟩
    rw [hk] at u1 u2 ⊢
    simp only [hk] at hinv
    intro x19 x20 x21 x22 x23 x24 x25 x26 x27 x28 x29 x30 x31 x32 x33 x34 x35 x36
    by_cases hkb:k=b
    · have hlt3:((k:Int)=(b:Int))=True:=eq_true (by omega)
      rw [if_pos hkb] at hinv
      rw [hinv] at hK
      simp only [Cz1,A_,simprocAttr,ne_eq,Uz4.1,hlt3]
      exact hK
    have hlt3:((k:Int)=(b:Int))=False:=eq_false (by omega)
    rw [if_neg hkb] at hinv
    have hwb:IntKind.i64.wrap ((b:Int) - (a:Int))=((b - a:Nat):Int):=by rw [wrap_i64 (by omega) (by omega)]; omega
    by_cases h50:b - a < 50
    · have hlt4:(((b - a:Nat):Int) < 50)=True:=eq_true (by omega)
      rw [if_pos h50] at hinv
      rw [hinv] at hK
      simp only [Cz1,A_,simprocAttr,ne_eq,Uz4.1,hlt3,hwb,hlt4]
      exact hK
    have hlt4:(((b - a:Nat):Int) < 50)=False:=eq_false (by omega)
    rw [if_neg h50] at hinv
    have hSe:(S.set n (flat iA e))[n]? = some (flat iA e):=sset hS
    have hwk:IntKind.i64.wrap ((k:Int) - 1)=((k - 1:Nat):Int):=by rw [wrap_i64 (by omega) (by omega)]; omega
    have hwk2:IntKind.i64.wrap ((k:Int) + 1)=((k + 1:Nat):Int):=by rw [wrap_i64 (by omega) (by omega)]; omega
    have hwka:IntKind.i64.wrap ((k:Int) - (a:Int))=((k - a:Nat):Int):=by rw [wrap_i64 (by omega) (by omega)]; omega
    have hwbk:IntKind.i64.wrap ((b:Int) - (k:Int))=((b - k:Nat):Int):=by rw [wrap_i64 (by omega) (by omega)]; omega
    have xa:∀kk:IntKind,indexAddrL (.sl 1) (.row (.stk n) 0 N N) (.s (.int kk ((k:Nat):Int)))=some (.ptr (.stk n) (k)):=fun kk=>ixi (by omega)
    have xb:∀kk:IntKind,indexAddrL (.sl 1) (.row (.stk n) 0 N N) (.s (.int kk ((k - 1:Nat):Int)))=some (.ptr (.stk n) (k - 1)):=fun kk=>ixi (by omega)
    have ra:=ird (H:=H) hSe (i:=k) (by omega)
    have rb:=ird (H:=H) hSe (i:=k - 1) (by omega)
    obtain ⟨wa,wb⟩:=sw2 (H:=H) hSe (i:=k) (j:=k - 1) (by omega) (by omega)
    rw [List.set_set] at wa wb
    rw [List.set_set] at wb
    have hgs:(Sort.swp e k (k - 1)).size=N:=by rw [swp_size]; exact hes
    by_cases h2:2≤k - a
    · have hlt5:((2:Int)≤((k - a:Nat):Int))=True:=eq_true (by omega)
      rw [if_pos h2] at hinv
      simp only [Cz1,A_,simprocAttr,ne_eq,Uz4.1,hlt3,hwb,hlt4,hwk,hwka,hwbk,xa,xb,ra,rb,wa,wb,hlt5]
      refine y23p6_loop (a:=a) (b:=b) (i:=k) (st:=st) hC P (by first | exact hAsk | exact hAsk.setn | exact hAsk.setn.setn | exact hAsk.setm | exact hAsk.setm.setm | exact hAsk.app) hn rfl hdl (k - 1) _ _ (by omega) hgs (by simp [keep,zm]) ?_
      intro x11 x68 x69 x70 x71 x72 x73 x74 x75 x76 x77 x78 x79 x80 x81 x82 x83 x84
      have hgs2:(Sort.shiftDown (ltC cvF) (k - 1) (Sort.swp e k (k - 1))).size=N:=by rw [shiftDown_sizeF]; exact hgs
      generalize Sort.shiftDown (ltC cvF) (k - 1) (Sort.swp e k (k - 1))=g at hinv hgs2 ⊢
      by_cases h3:2≤b - k
      · have hlt6:((2:Int)≤((b - k:Nat):Int))=True:=eq_true (by omega)
        rw [if_pos h3] at hinv
        simp only [Cz1,A_,simprocAttr,ne_eq,Uz4.1,hwbk,hlt6,hwk2]
        refine y23p12_loop (a:=a) (b:=b) (i:=k) (st:=st) hC P (by first | exact hAsk | exact hAsk.setn | exact hAsk.setn.setn | exact hAsk.setm | exact hAsk.setm.setm | exact hAsk.app) hn rfl hbd hdl (k + 1) _ _ (by omega) (by omega) hgs2 (by simp [keep,zm]) ?_
        intro x12 x107 x108 x109 x110 x111 x112 x113 x114 x115 x116 x117 x118 x119 x120 x121 x122 x123 x124
        simp only [Cz1,A_,simprocAttr,ne_eq,Uz4.1,hws]
        exact ih (s,k,Sort.shiftUp (ltC cvF) b (k + 1) g) _ _ _ (by dsimp only; omega) ⟨by dsimp only; omega,by dsimp only; omega,by dsimp only; omega,by dsimp only; omega,by rw [shiftUp_sizeF b _ _ _ (Nat.le_refl _)]; exact hgs2,hinv⟩ (by simp [keep,zm]) (by rw [List.take_of_length_le]; simp) rfl
      · have hlt6:((2:Int)≤((b - k:Nat):Int))=False:=eq_false (by omega)
        rw [if_neg h3] at hinv
        simp only [Cz1,A_,simprocAttr,ne_eq,Uz4.1,hwbk,hlt6,hws]
        exact ih (s,k,g) _ _ _ (by dsimp only; omega) ⟨by dsimp only; omega,by dsimp only; omega,by dsimp only; omega,by dsimp only; omega,hgs2,hinv⟩ (by simp [keep,zm]) (by rw [List.take_of_length_le]; simp) rfl
    · have hlt5:((2:Int)≤((k - a:Nat):Int))=False:=eq_false (by omega)
      rw [if_neg h2] at hinv
      simp only [Cz1,A_,simprocAttr,ne_eq,Uz4.1,hlt3,hwb,hlt4,hwk,hwka,hwbk,xa,xb,ra,rb,wa,wb,hlt5]
      have hgs2:=hgs
      generalize Sort.swp e k (k - 1)=g at hinv hgs2 ⊢
      by_cases h3:2≤b - k
      · have hlt6:((2:Int)≤((b - k:Nat):Int))=True:=eq_true (by omega)
        rw [if_pos h3] at hinv
        simp only [Cz1,A_,simprocAttr,ne_eq,Uz4.1,hwbk,hlt6,hwk2]
        refine y23p12_loop (a:=a) (b:=b) (i:=k) (st:=st) hC P (by first | exact hAsk | exact hAsk.setn | exact hAsk.setn.setn | exact hAsk.setm | exact hAsk.setm.setm | exact hAsk.app) hn rfl hbd hdl (k + 1) _ _ (by omega) (by omega) hgs2 (by simp [keep,zm]) ?_
        intro x12 x107 x108 x109 x110 x111 x112 x113 x114 x115 x116 x117 x118 x119 x120 x121 x122 x123 x124
        simp only [Cz1,A_,simprocAttr,ne_eq,Uz4.1,hws]
        exact ih (s,k,Sort.shiftUp (ltC cvF) b (k + 1) g) _ _ _ (by dsimp only; omega) ⟨by dsimp only; omega,by dsimp only; omega,by dsimp only; omega,by dsimp only; omega,by rw [shiftUp_sizeF b _ _ _ (Nat.le_refl _)]; exact hgs2,hinv⟩ (by simp [keep,zm]) (by rw [List.take_of_length_le]; simp) rfl
      · have hlt6:((2:Int)≤((b - k:Nat):Int))=False:=eq_false (by omega)
        rw [if_neg h3] at hinv
        simp only [Cz1,A_,simprocAttr,ne_eq,Uz4.1,hwbk,hlt6,hws]
        exact ih (s,k,g) _ _ _ (by dsimp only; omega) ⟨by dsimp only; omega,by dsimp only; omega,by dsimp only; omega,by dsimp only; omega,hgs2,hinv⟩ (by simp [keep,zm]) (by rw [List.take_of_length_le]; simp) rfl
end Go.AM
namespace Go.AM
open Go
open AV renaming undef → uu
set_option maxRecDepth 20000
variable {gF:FuncId} {qF:List AV} {cvF:Int→Int→Int}
theorem SrtSF.at {C:CallW} {f:FuncId} {X:Array Int→Nat→Nat→Array Int} (h:SrtSF C gF qF cvF f X) {N:Nat} (n:Nat) (d:Array Int) (a b:Nat) (S:List (List AV)) (H:List HObj) (K:AV→St→Prop) (hAsk:AskC C gF qF cvF n n S H) (hS:S[n]? = some (flat iA d)) (hd:d.size=N) (h1:a≤b) (h2:b≤N) (h3:N≤2305843009213693952) (hK:K (.tup []) ⟨S.set n (flat iA (X d a b)),H⟩):C (.fn f) [.row (.stk n) 0 N N,.s (.int .i64 a),.s (.int .i64 b),.fn (.func gF) [] qF] ⟨S,H⟩ K:=by
  subst hd; exact h n d a b S H K hAsk hS h1 h2 (by omega) hK
theorem SrtTF.at {C:CallW} {f:FuncId} {X:Array Int→Nat→Nat→Array Int} (h:SrtTF C gF qF cvF f X) {N:Nat} (n:Nat) (d:Array Int) (a b:Nat) (S:List (List AV)) (H:List HObj) (K:AV→St→Prop) (hAsk:AskC C gF qF cvF n n S H) (hS:S[n]? = some (flat iA d)) (hd:d.size=N) (h1:a < b) (h2:b≤N) (h3:N≤2305843009213693952) (hK:K (.tup []) ⟨S.set n (flat iA (X d a b)),H⟩):C (.fn f) [.row (.stk n) 0 N N,.s (.int .i64 a),.s (.int .i64 b),.fn (.func gF) [] qF] ⟨S,H⟩ K:=by
  subst hd; exact h n d a b S H K hAsk hS h1 h2 h3 hK
theorem ChpSF.at {C:CallW} {f:FuncId} (h:ChpSF C gF qF cvF f) {N:Nat} (n:Nat) (d:Array Int) (a b:Nat) (S:List (List AV)) (H:List HObj) (K:AV→St→Prop) (hAsk:AskC C gF qF cvF n n S H) (hS:S[n]? = some (flat iA d)) (hd:d.size=N) (h1:a < b) (h2:b≤N) (h3:N≤2305843009213693952) (hK:K (.tup [.s (.int .i64 (Sort.choosePivot (ltC cvF) d a b).1),.s (.int .i64 (hI (Sort.choosePivot (ltC cvF) d a b).2))]) ⟨S,H⟩):C (.fn f) [.row (.stk n) 0 N N,.s (.int .i64 a),.s (.int .i64 b),.fn (.func gF) [] qF] ⟨S,H⟩ K:=by
  subst hd; exact h n d a b S H K hAsk hS h1 h2 h3 hK
theorem PinSF.at {C:CallW} {f:FuncId} (h:PinSF C gF qF cvF f) {N:Nat} (n:Nat) (d:Array Int) (a b:Nat) (S:List (List AV)) (H:List HObj) (K:AV→St→Prop) (hAsk:AskC C gF qF cvF n n S H) (hS:S[n]? = some (flat iA d)) (hd:d.size=N) (h1:a < b) (h2:b≤N) (h3:N≤2305843009213693952) (hK:K (.bool (Sort.partialInsertionSort (ltC cvF) d a b).2) ⟨S.set n (flat iA (Sort.partialInsertionSort (ltC cvF) d a b).1),H⟩):C (.fn f) [.row (.stk n) 0 N N,.s (.int .i64 a),.s (.int .i64 b),.fn (.func gF) [] qF] ⟨S,H⟩ K:=by
  subst hd; exact h n d a b S H K hAsk hS h1 h2 h3 hK
theorem PeqSF.at {C:CallW} {f:FuncId} (h:PeqSF C gF qF cvF f) {N:Nat} (n:Nat) (d:Array Int) (a b p:Nat) (S:List (List AV)) (H:List HObj) (K:AV→St→Prop) (hAsk:AskC C gF qF cvF n n S H) (hS:S[n]? = some (flat iA d)) (hd:d.size=N) (h0:a≤p) (h1:p < b) (h2:b≤N) (h3:N≤2305843009213693952) (hK:K (.s (.int .i64 (Sort.partitionEqual (ltC cvF) d a b p).1)) ⟨S.set n (flat iA (Sort.partitionEqual (ltC cvF) d a b p).2),H⟩):C (.fn f) [.row (.stk n) 0 N N,.s (.int .i64 a),.s (.int .i64 b),.s (.int .i64 p),.fn (.func gF) [] qF] ⟨S,H⟩ K:=by
  subst hd; exact h n d a b p S H K hAsk hS h0 h1 h2 h3 hK
theorem PartSF.at {C:CallW} {f:FuncId} (h:PartSF C gF qF cvF f) {N:Nat} (n:Nat) (d:Array Int) (a b p:Nat) (S:List (List AV)) (H:List HObj) (K:AV→St→Prop) (hAsk:AskC C gF qF cvF n n S H) (hS:S[n]? = some (flat iA d)) (hd:d.size=N) (h0:a≤p) (h1:p < b) (h2:b≤N) (h3:N≤2305843009213693952) (hK:K (.tup [.s (.int .i64 (Sort.partition (ltC cvF) d a b p).1),.s (.bool (Sort.partition (ltC cvF) d a b p).2.1)]) ⟨S.set n (flat iA (Sort.partition (ltC cvF) d a b p).2.2),H⟩):C (.fn f) [.row (.stk n) 0 N N,.s (.int .i64 a),.s (.int .i64 b),.s (.int .i64 p),.fn (.func gF) [] qF] ⟨S,H⟩ K:=by
  subst hd; exact h n d a b p S H K hAsk hS h0 h1 h2 h3 hK
def PdqSF (C:CallW) (gF:FuncId) (qF:List AV) (cvF:Int→Int→Int) (f:FuncId) (m:Nat):Prop:=∀(n:Nat) (d:Array Int) (a b lim:Nat) (S:List (List AV)) (H:List HObj) (K:AV→St→Prop),AskC C gF qF cvF n n S H→S[n]? = some (flat iA d)→a≤b→b≤d.size→d.size≤2305843009213693952→b - a < m→lim≤2305843009213693952→Sort.Below (ltC cvF) a b d→(∀R,Sort.PermIn a b d R→Sort.SortedIn (ltC cvF) a b R→K (.tup []) ⟨S.set n (flat iA R),H⟩)→C (.fn f) [.row (.stk n) 0 d.size d.size,.s (.int .i64 a),.s (.int .i64 b),.s (.int .i64 lim),.fn (.func gF) [] qF] ⟨S,H⟩ K
theorem PdqSF.at {C:CallW} {f:FuncId} {m:Nat} (h:PdqSF C gF qF cvF f m) {N:Nat} (n:Nat) (d:Array Int) (a b lim:Nat) (S:List (List AV)) (H:List HObj) (K:AV→St→Prop) (hAsk:AskC C gF qF cvF n n S H) (hS:S[n]? = some (flat iA d)) (hd:d.size=N) (h1:a≤b) (h2:b≤N) (h3:N≤2305843009213693952) (h4:b - a < m) (h5:lim≤2305843009213693952) (hB:Sort.Below (ltC cvF) a b d) (hK:∀R,Sort.PermIn a b d R→Sort.SortedIn (ltC cvF) a b R→K (.tup []) ⟨S.set n (flat iA R),H⟩):C (.fn f) [.row (.stk n) 0 N N,.s (.int .i64 a),.s (.int .i64 b),.s (.int .i64 lim),.fn (.func gF) [] qF] ⟨S,H⟩ K:=by
  subst hd; exact h n d a b lim S H K hAsk hS h1 h2 h3 h4 h5 hB hK
def Vz2 (c : Nat → FuncId) := PLift.up (zc (zc (zc (@unfC _ _ (y23m1.eq_1 c)) (zc (@unfC _ _ (y23m2.eq_1 c)) (@unfC _ _ (y23m3.eq_1 c)))) (zc (zc (@unfC _ _ (y23m4.eq_1 c)) (@unfC _ _ (y23m5.eq_1 c))) (zc (@unfC _ _ (y23m6.eq_1 c)) (@unfC _ _ (y23m7.eq_1 c))))) (zc (zc (zc (@unfC _ _ (y23m20.eq_1 c)) (@unfC _ _ (y23m21.eq_1 c))) (zc (@unfC _ _ (y23m22.eq_1 c)) (@unfC _ _ (y23m23.eq_1 c)))) (zc (zc (@unfC _ _ (y23m24.eq_1 c)) (@unfC _ _ (y23m25.eq_1 c))) (zc (@unfC _ _ (y23m26.eq_1 c)) (@unfC _ _ (y23m27.eq_1 c))))))
def Vz3 (c : Nat → FuncId) := PLift.up (zc (zc (zc (@unfC _ _ (y23m8.eq_1 c)) (zc (@unfC _ _ (y23m9.eq_1 c)) (@unfC _ _ (y23m10.eq_1 c)))) (zc (@unfC _ _ (y23m11.eq_1 c)) (zc (@unfC _ _ (y23m12.eq_1 c)) (@unfC _ _ (y23m13.eq_1 c))))) (zc (zc (@unfC _ _ (y23m14.eq_1 c)) (zc (@unfC _ _ (y23m15.eq_1 c)) (@unfC _ _ (y23m16.eq_1 c)))) (zc (@unfC _ _ (y23m17.eq_1 c)) (zc (@unfC _ _ (y23m18.eq_1 c)) (@unfC _ _ (y23m19.eq_1 c))))))
set_option maxHeartbeats 16000000 in
theorem y23s19_run {C : CallW} (hw : Sort.SWO (ltC cvF)) (hC : LeC C C) (P : Program) {c : Nat → FuncId} {m : Nat} (h7 : PeqSF C gF qF cvF (c 6)) (h8 : PartSF C gF qF cvF (c 7)) (h9 : PdqSF C gF qF cvF (c 8) m) {n N a b L lim piv n0 : Nat} {wb wp : Bool} {e : Array Int} {S : List (List AV)} {H : List HObj} {is : List Item} {K : KC} (hAsk : AskC C gF qF cvF n n S H) (hS : S[n]? = some (flat iA e)) (hn0 : n0 = S.length) (hes : e.size = N) (hap : a ≤ piv) (hpb : piv < b) (hb : b ≤ N) (hN : N ≤ 2305843009213693952) (hL : L ≤ N) (hlim : lim ≤ 2305843009213693952) (hm : b - a ≤ m) (hB : Sort.Below (ltC cvF) a b e)
    (hloop:∀(a' b' lim':Nat) (wb' wp':Bool) (e':Array Int) (fr':Fr) (S':List (List AV)),keep (zm false [0,5,5,2,136]) fr'=[.row (.stk n) 0 N N,.s (.int .i64 (a':Nat)),.s (.int .i64 (b':Nat)),.s (.int .i64 (lim':Nat)),.fn (.func gF) [] qF,uu,uu,uu,uu,uu,.s (.bool wb'),.s (.bool wp'),uu,uu,uu,uu,uu,uu,uu,uu,uu,uu,uu,uu,uu,uu,uu,uu,uu,uu,uu,uu,uu,uu,uu,uu,uu,uu,uu,uu,uu,uu,uu,uu,uu,uu,uu,uu,uu,uu,uu,uu,uu,uu,uu,uu,uu,uu,uu,uu,uu,uu,uu,uu,uu,uu,uu,uu,uu,uu,uu,uu,uu,uu,uu,uu,uu,uu,uu,uu,uu,uu,uu,uu,uu,uu,uu,uu,uu,uu,uu,uu,uu,uu,uu,uu,uu,uu,uu,uu,uu,uu,uu,uu,uu,uu,uu,uu,uu,uu,uu,uu,uu,uu,uu,uu,uu,uu,uu,uu,uu,uu,uu,uu,uu,uu,uu,uu,uu,uu,uu,uu,uu,uu,uu,uu,uu,uu,uu,uu,uu,uu,uu,uu,uu,uu,uu,uu]→S'.take n0=S.set n (flat iA e')→e'.size=N→b' - a' < b - a→a≤a'→b'≤b→a'≤b'→lim'≤2305843009213693952→Sort.Below (ltC cvF) a' b' e'→(∀R,Sort.PermIn a' b' e' R→Sort.SortedIn (ltC cvF) a' b' R→Sort.PermIn a b e R∧Sort.SortedIn (ltC cvF) a b R)→runLp C P false (zm false [0,5,5,2,136]) (y23m26 c) n0 is fr' ⟨S',H⟩ K) :
    ∀(x5 x6 x7 x8 x9 x14 x15 x16 x17 x18 x19 x20 x21 x22 x23 x24 x25 x26 x27 x28 x29 x30 x31 x32 x33 x34 x35 x36 x37 x38 x39 x40 x41 x42 x43 x44 x45 x46 x47 x48 x49 x50 x51 x52 x53 x54 x55 x56 x57 x58 x59 x60 x61 x62 x63 x64 x65 x66 x67 x68 x69 x70 x71 x72 x73 x74 x75 x76 x77 x78 x79 x80 x81 x82 x83 x84 x85 x86 x87 x88 x89 x90 x91 x92 x93 x94 x95 x96 x97 x98 x99 x100 x101 x102 x103 x104 x105 x106 x107 x108 x109 x110 x111 x112 x113 x114 x115 x116 x117 x118 x119 x120 x121 x122 x123 x124 x125 x126 x127 x128 x129 x130 x131 x132 x133 x134 x135 x136 x137 x138 x139 x140 x141 x142 x143 x144 x145 x146 x147:AV),runC C P false (y23m19 c) (.blk 1 :: .lp (zm false [0,5,5,2,136]) (y23m26 c) n0 :: is) [.row (.stk n) 0 N N,.s (.int .i64 (a:Nat)),.s (.int .i64 (b:Nat)),.s (.int .i64 (lim:Nat)),.fn (.func gF) [] qF,x5,x6,x7,x8,x9,.s (.bool wb),.s (.bool wp),.s (.int .i64 (L:Nat)),.s (.int .i64 (piv:Nat)),x14,x15,x16,x17,x18,x19,x20,x21,x22,x23,x24,x25,x26,x27,x28,x29,x30,x31,x32,x33,x34,x35,x36,x37,x38,x39,x40,x41,x42,x43,x44,x45,x46,x47,x48,x49,x50,x51,x52,x53,x54,x55,x56,x57,x58,x59,x60,x61,x62,x63,x64,x65,x66,x67,x68,x69,x70,x71,x72,x73,x74,x75,x76,x77,x78,x79,x80,x81,x82,x83,x84,x85,x86,x87,x88,x89,x90,x91,x92,x93,x94,x95,x96,x97,x98,x99,x100,x101,x102,x103,x104,x105,x106,x107,x108,x109,x110,x111,x112,x113,x114,x115,x116,x117,x118,x119,x120,x121,x122,x123,x124,x125,x126,x127,x128,x129,x130,x131,x132,x133,x134,x135,x136,x137,x138,x139,x140,x141,x142,x143,x144,x145,x146,x147] ⟨S,H⟩ K:=by
  intro x5 x6 x7 x8 x9 x14 x15 x16 x17 x18 x19 x20 x21 x22 x23 x24 x25 x26 x27 x28 x29 x30 x31 x32 x33 x34 x35 x36 x37 x38 x39 x40 x41 x42 x43 x44 x45 x46 x47 x48 x49 x50 x51 x52 x53 x54 x55 x56 x57 x58 x59 x60 x61 x62 x63 x64 x65 x66 x67 x68 x69 x70 x71 x72 x73 x74 x75 x76 x77 x78 x79 x80 x81 x82 x83 x84 x85 x86 x87 x88 x89 x90 x91 x92 x93 x94 x95 x96 x97 x98 x99 x100 x101 x102 x103 x104 x105 x106 x107 x108 x109 x110 x111 x112 x113 x114 x115 x116 x117 x118 x119 x120 x121 x122 x123 x124 x125 x126 x127 x128 x129 x130 x131 x132 x133 x134 x135 x136 x137 x138 x139 x140 x141 x142 x143 x144 x145 x146 x147
  have hn:=slt hS
  by_cases ha0:0 < a
  · have hlt:((0:Int) < (a:Int))=True:=eq_true (by omega)
    have hwa:IntKind.i64.wrap ((a:Int) - 1)=((a - 1:Nat):Int):=by rw [wrap_i64 (by omega) (by omega)]; omega
    have xa:∀kk:IntKind,indexAddrL (.sl 1) (.row (.stk n) 0 N N) (.s (.int kk ((a - 1:Nat):Int)))=some (.ptr (.stk n) (a - 1)):=fun kk=>ixi (by omega)
    have xb:∀kk:IntKind,indexAddrL (.sl 1) (.row (.stk n) 0 N N) (.s (.int kk (piv:Int)))=some (.ptr (.stk n) piv):=fun kk=>ixi (by omega)
    have ra:=ird (H:=H) hS (i:=a - 1) (by omega)
    have rb:=ird (H:=H) hS (i:=piv) (by omega)
    simp only [(Vz3 c).1,A_,simprocAttr,ne_eq,hlt,hwa,xa,xb,ra,rb]
    refine hAsk.2 _ _ _ _ (by first | exact fun _ _ _ _=>rfl | exact fun i _ h _=>List.getElem?_set_ne (Ne.symm h)) ?_
    cases hlk:(ltC cvF) e[a - 1]! e[piv]! with
    | false =>
      have hlc:=ltC_f hlk
      simp only [(Vz3 c).1,A_,simprocAttr,ne_eq,hlc]
      refine h7.at n e a b piv _ _ _ (by first | exact hAsk | exact hAsk.setn | exact hAsk.setn.setn | exact hAsk.setm | exact hAsk.setm.setm | exact hAsk.app) hS hes hap hpb hb hN ?_
      obtain ⟨⟨mid,d4⟩,hx⟩:∃r,Sort.partitionEqual (ltC cvF) e a b piv=r:=⟨_,rfl⟩
      obtain ⟨g1,g2,hs4,hB4,hfin⟩:=Sort.round_eq hw (Sort.partitionEqual_holds _) ha0 hap hpb (by omega) hB hlk hx
      have hx':Sort.partitionEqual (ltC cvF) e a b piv=(mid,d4):=hx
      rw [hx']
      simp only [(Vz3 c).1,A_,simprocAttr,ne_eq]
      exact hloop mid b lim wb wp d4 _ _ (by simp [keep,zm]) (by rw [List.take_of_length_le]; simp [hn0]) (hs4.trans hes) (by omega) (by omega) (by omega) (by omega) hlim hB4 hfin
    | true =>
      have hlc:=ltC_t hlk
      simp only [(Vz3 c).1,A_,simprocAttr,ne_eq,hlc]
      refine h8.at n e a b piv _ _ _ (by first | exact hAsk | exact hAsk.setn | exact hAsk.setn.setn | exact hAsk.setm | exact hAsk.setm.setm | exact hAsk.app) hS hes hap hpb hb hN ?_
      obtain ⟨⟨mid,ap,d4⟩,hx⟩:∃r,Sort.partition (ltC cvF) e a b piv=r:=⟨_,rfl⟩
      obtain ⟨g1,g2,hs4,hBa,hBr,hleft,hright⟩:=Sort.round_part hw (Sort.partition_holds _) hap hpb (by omega) hB hx
      have hx':Sort.partition (ltC cvF) e a b piv=(mid,ap,d4):=hx
      rw [hx']
      have hsz:d4.size=N:=hs4.trans hes
      have hml:IntKind.i64.wrap ((mid:Int) - (a:Int))=((mid - a:Nat):Int):=by rw [wrap_i64 (by omega) (by omega)]; omega
      have hmr:IntKind.i64.wrap ((b:Int) - (mid:Int))=((b - mid:Nat):Int):=by rw [wrap_i64 (by omega) (by omega)]; omega
      have hq:IntKind.i64.wrap ((L:Int).tdiv 8)=((L / 8:Nat):Int):=by rw [show ((L:Int).tdiv 8)=((L / 8:Nat):Int) from rfl,wrap_i64 (by omega) (by omega)]
      have hm1:IntKind.i64.wrap ((mid:Int) + 1)=((mid + 1:Nat):Int):=by rw [wrap_i64 (by omega) (by omega)]; omega
      by_cases hlr:mid - a < b - mid
      · have hlt2:(((mid - a:Nat):Int) < ((b - mid:Nat):Int))=True:=eq_true (by omega)
        simp only [(Vz3 c).1,A_,simprocAttr,ne_eq,hml,hmr,hq,hm1,hlt2]
        refine h9.at n d4 a mid lim _ _ _ (by first | exact hAsk | exact hAsk.setn | exact hAsk.setn.setn | exact hAsk.setm | exact hAsk.setm.setm | exact hAsk.app) (sset hS) hsz g1 (by omega) hN (by omega) hlim hBa fun R hR hsR => ?_
        rw [List.set_set]
        obtain ⟨hBL,hfin⟩:=hleft R hR hsR
        simp only [(Vz3 c).1,A_,simprocAttr,ne_eq,hml,hmr,hq,hm1,hlt2]
        exact hloop (mid + 1) b lim (decide (((L / 8:Nat):Int)≤((mid - a:Nat):Int))) ap R _ _ (by simp [keep,zm]) (by rw [List.take_of_length_le]; simp [hn0]) (hR.1.trans hsz) (by omega) (by omega) (by omega) (by omega) hlim hBL hfin
      · have hlt2:(((mid - a:Nat):Int) < ((b - mid:Nat):Int))=False:=eq_false (by omega)
        simp only [(Vz3 c).1,A_,simprocAttr,ne_eq,hml,hmr,hq,hm1,hlt2]
        refine h9.at n d4 (mid + 1) b lim _ _ _ (by first | exact hAsk | exact hAsk.setn | exact hAsk.setn.setn | exact hAsk.setm | exact hAsk.setm.setm | exact hAsk.app) (sset hS) hsz (by omega) (by omega) hN (by omega) hlim hBr fun R hR hsR => ?_
        rw [List.set_set]
        obtain ⟨hBL,hfin⟩:=hright R hR hsR
        simp only [(Vz3 c).1,A_,simprocAttr,ne_eq,hml,hmr,hq,hm1,hlt2]
        exact hloop a mid lim (decide (((L / 8:Nat):Int)≤((b - mid:Nat):Int))) ap R _ _ (by simp [keep,zm]) (by rw [List.take_of_length_le]; simp [hn0]) (hR.1.trans hsz) (by omega) (by omega) (by omega) (by omega) hlim hBL hfin
  · have hlt:((0:Int) < (a:Int))=False:=eq_false (by omega)
    simp only [(Vz3 c).1,A_,simprocAttr,ne_eq,hlt]
    refine h8.at n e a b piv _ _ _ (by first | exact hAsk | exact hAsk.setn | exact hAsk.setn.setn | exact hAsk.setm | exact hAsk.setm.setm | exact hAsk.app) hS hes hap hpb hb hN ?_
    obtain ⟨⟨mid,ap,d4⟩,hx⟩:∃r,Sort.partition (ltC cvF) e a b piv=r:=⟨_,rfl⟩
    obtain ⟨g1,g2,hs4,hBa,hBr,hleft,hright⟩:=Sort.round_part hw (Sort.partition_holds _) hap hpb (by omega) hB hx
    have hx':Sort.partition (ltC cvF) e a b piv=(mid,ap,d4):=hx
    rw [hx']
    have hsz:d4.size=N:=hs4.trans hes
    have hml:IntKind.i64.wrap ((mid:Int) - (a:Int))=((mid - a:Nat):Int):=by rw [wrap_i64 (by omega) (by omega)]; omega
    have hmr:IntKind.i64.wrap ((b:Int) - (mid:Int))=((b - mid:Nat):Int):=by rw [wrap_i64 (by omega) (by omega)]; omega
    have hq:IntKind.i64.wrap ((L:Int).tdiv 8)=((L / 8:Nat):Int):=by rw [show ((L:Int).tdiv 8)=((L / 8:Nat):Int) from rfl,wrap_i64 (by omega) (by omega)]
    have hm1:IntKind.i64.wrap ((mid:Int) + 1)=((mid + 1:Nat):Int):=by rw [wrap_i64 (by omega) (by omega)]; omega
    by_cases hlr:mid - a < b - mid
    · have hlt2:(((mid - a:Nat):Int) < ((b - mid:Nat):Int))=True:=eq_true (by omega)
      simp only [(Vz3 c).1,A_,simprocAttr,ne_eq,hml,hmr,hq,hm1,hlt2]
      refine h9.at n d4 a mid lim _ _ _ (by first | exact hAsk | exact hAsk.setn | exact hAsk.setn.setn | exact hAsk.setm | exact hAsk.setm.setm | exact hAsk.app) (sset hS) hsz g1 (by omega) hN (by omega) hlim hBa fun R hR hsR => ?_
      rw [List.set_set]
      obtain ⟨hBL,hfin⟩:=hleft R hR hsR
      simp only [(Vz3 c).1,A_,simprocAttr,ne_eq,hml,hmr,hq,hm1,hlt2]
      exact hloop (mid + 1) b lim (decide (((L / 8:Nat):Int)≤((mid - a:Nat):Int))) ap R _ _ (by simp [keep,zm]) (by rw [List.take_of_length_le]; simp [hn0]) (hR.1.trans hsz) (by omega) (by omega) (by omega) (by omega) hlim hBL hfin
    · have hlt2:(((mid - a:Nat):Int) < ((b - mid:Nat):Int))=False:=eq_false (by omega)
      simp only [(Vz3 c).1,A_,simprocAttr,ne_eq,hml,hmr,hq,hm1,hlt2]
      refine h9.at n d4 (mid + 1) b lim _ _ _ (by first | exact hAsk | exact hAsk.setn | exact hAsk.setn.setn | exact hAsk.setm | exact hAsk.setm.setm | exact hAsk.app) (sset hS) hsz (by omega) (by omega) hN (by omega) hlim hBr fun R hR hsR => ?_
      rw [List.set_set]
      obtain ⟨hBL,hfin⟩:=hright R hR hsR
      simp only [(Vz3 c).1,A_,simprocAttr,ne_eq,hml,hmr,hq,hm1,hlt2]
      exact hloop a mid lim (decide (((L / 8:Nat):Int)≤((b - mid:Nat):Int))) ap R _ _ (by simp [keep,zm]) (by rw [List.take_of_length_le]; simp [hn0]) (hR.1.trans hsz) (by omega) (by omega) (by omega) (by omega) hlim hBL hfin
set_option maxHeartbeats 32000000 in
theorem pdqsort_specF {C:CallW} (hw:Sort.SWO (ltC cvF)) (hC:LeC C C) (P:Program) {c:Nat→FuncId} {m:Nat} (h0:SrtSF C gF qF cvF (c 0) (Sort.insertionSort (ltC cvF))) (h1:SrtTF C gF qF cvF (c 1) (Sort.heapSort (ltC cvF))) (h2:SrtTF C gF qF cvF (c 2) Sort.breakPatterns) (h3:ChpSF C gF qF cvF (c 3)) (h4:SrtTF C gF qF cvF (c 4) Sort.reverseRange) (h5:PinSF C gF qF cvF (c 5)) (h7:PeqSF C gF qF cvF (c 6)) (h8:PartSF C gF qF cvF (c 7)) (h9:PdqSF C gF qF cvF (c 8) m):∀(n:Nat) (d:Array Int) (a b lim:Nat) (S:List (List AV)) (H:List HObj) (K:AV→St→Prop),AskC C gF qF cvF n n S H→S[n]? = some (flat iA d)→a≤b→b≤d.size→d.size≤2305843009213693952→b - a < m + 1→lim≤2305843009213693952→Sort.Below (ltC cvF) a b d→(∀R,Sort.PermIn a b d R→Sort.SortedIn (ltC cvF) a b R→K (.tup []) ⟨S.set n (flat iA R),H⟩)→runL C P (Cz11 c) [.row (.stk n) 0 d.size d.size,.s (.int .i64 a),.s (.int .i64 b),.s (.int .i64 lim),.fn (.func gF) [] qF] ⟨S,H⟩ K:=by
  intro n d a0 b0 lim0 S H K hAsk hS hab0 hbd0 hdl hm0 hlim0 hB0 hK
  have hqu:=hAsk.1 _ (Nat.le_refl _)
  have hn:=slt hS
  obtain ⟨N,hN0⟩:∃N,d.size=N:=⟨_,rfl⟩
  rw [hN0] at hbd0 hdl ⊢
  have hN:N≤2305843009213693952:=hdl
  simp only [Cz11,(Vz2 c).1,A_,simprocAttr,ne_eq]
  refine loop_rule hC (α:=Nat×Nat×Nat×Bool×Bool×Array Int) (fun x=>x.2.1 - x.1) (fun x=>[.row (.stk n) 0 N N,.s (.int .i64 (x.1:Nat)),.s (.int .i64 (x.2.1:Nat)),.s (.int .i64 (x.2.2.1:Nat)),.fn (.func gF) [] qF,uu,uu,uu,uu,uu,.s (.bool x.2.2.2.1),.s (.bool x.2.2.2.2.1),uu,uu,uu,uu,uu,uu,uu,uu,uu,uu,uu,uu,uu,uu,uu,uu,uu,uu,uu,uu,uu,uu,uu,uu,uu,uu,uu,uu,uu,uu,uu,uu,uu,uu,uu,uu,uu,uu,uu,uu,uu,uu,uu,uu,uu,uu,uu,uu,uu,uu,uu,uu,uu,uu,uu,uu,uu,uu,uu,uu,uu,uu,uu,uu,uu,uu,uu,uu,uu,uu,uu,uu,uu,uu,uu,uu,uu,uu,uu,uu,uu,uu,uu,uu,uu,uu,uu,uu,uu,uu,uu,uu,uu,uu,uu,uu,uu,uu,uu,uu,uu,uu,uu,uu,uu,uu,uu,uu,uu,uu,uu,uu,uu,uu,uu,uu,uu,uu,uu,uu,uu,uu,uu,uu,uu,uu,uu,uu,uu,uu,uu,uu,uu,uu,uu,uu]) (fun x=>S.set n (flat iA x.2.2.2.2.2)) (fun _=>H) (fun x=>x.1≤x.2.1∧x.2.1≤N∧x.2.2.2.2.2.size=N∧x.2.2.1≤2305843009213693952∧x.2.1 - x.1≤b0 - a0∧Sort.Below (ltC cvF) x.1 x.2.1 x.2.2.2.2.2∧∀R,Sort.PermIn x.1 x.2.1 x.2.2.2.2.2 R→Sort.SortedIn (ltC cvF) x.1 x.2.1 R→Sort.PermIn a0 b0 d R∧Sort.SortedIn (ltC cvF) a0 b0 R) (a0,b0,lim0,true,true,d) ⟨hab0,hbd0,hN0,hlim0,Nat.le_refl _,hB0,fun R h1 h2=>⟨h1,h2⟩⟩ (by simp [keep,zm]) (by rw [sself hS,List.take_of_length_le (Nat.le_refl _)]) rfl (fun x _=>by simp [AV.under,AV.under.go,hn,hqu]) ?_
  rintro ⟨a,b,lim,wb,wp,e⟩ ⟨hab,hbN,hes,hlim,hba,hB,hfin⟩ ih
  dsimp only at hab hbN hes hlim hba hB hfin ih ⊢
  have hbe:b≤e.size:=by omega
  have hw0:IntKind.i64.wrap ((b:Int) - (a:Int))=((b - a:Nat):Int):=by rw [wrap_i64 (by omega) (by omega)]; omega
  have hSe:(S.set n (flat iA e))[n]? = some (flat iA e):=sset hS
  by_cases h12:b - a≤12
  · have hlt:(((b - a:Nat):Int)≤12)=True:=eq_true (by omega)
    simp only [(Vz2 c).1,A_,simprocAttr,ne_eq,hw0,hlt]
    refine h0.at n e a b _ _ _ (by first | exact hAsk | exact hAsk.setn | exact hAsk.setn.setn | exact hAsk.setm | exact hAsk.setm.setm | exact hAsk.app) hSe hes hab hbN hN ?_
    rw [List.set_set]
    obtain ⟨q1,q2⟩:=Sort.insertionSort_holds hw e a b hab hbe
    obtain ⟨q3,q4⟩:=hfin _ q1 q2
    simp only [(Vz2 c).1,A_,simprocAttr,ne_eq]
    exact hK _ q3 q4
  have hlt:(((b - a:Nat):Int)≤12)=False:=eq_false (by omega)
  by_cases hl0:lim=0
  · subst hl0
    have hlt0:(((0:Nat):Int)=0)=True:=eq_true rfl
    simp only [(Vz2 c).1,A_,simprocAttr,ne_eq,hw0,hlt,hlt0]
    refine h1.at n e a b _ _ _ (by first | exact hAsk | exact hAsk.setn | exact hAsk.setn.setn | exact hAsk.setm | exact hAsk.setm.setm | exact hAsk.app) hSe hes (by omega) hbN hN ?_
    rw [List.set_set]
    obtain ⟨q1,q2⟩:=Sort.heapSort_holds hw e a b hab hbe
    obtain ⟨q3,q4⟩:=hfin _ q1 q2
    simp only [(Vz2 c).1,A_,simprocAttr,ne_eq]
    exact hK _ q3 q4
  have hlt0:((lim:Int)=0)=False:=eq_false (by omega)
  have loop2:∀(e2:Array Int),Sort.PermIn a b e e2→∀(a' b' lim':Nat) (wb' wp':Bool) (e':Array Int) (fr':Fr) (S':List (List AV)),keep (zm false [0,5,5,2,136]) fr'=[.row (.stk n) 0 N N,.s (.int .i64 (a':Nat)),.s (.int .i64 (b':Nat)),.s (.int .i64 (lim':Nat)),.fn (.func gF) [] qF,uu,uu,uu,uu,uu,.s (.bool wb'),.s (.bool wp'),uu,uu,uu,uu,uu,uu,uu,uu,uu,uu,uu,uu,uu,uu,uu,uu,uu,uu,uu,uu,uu,uu,uu,uu,uu,uu,uu,uu,uu,uu,uu,uu,uu,uu,uu,uu,uu,uu,uu,uu,uu,uu,uu,uu,uu,uu,uu,uu,uu,uu,uu,uu,uu,uu,uu,uu,uu,uu,uu,uu,uu,uu,uu,uu,uu,uu,uu,uu,uu,uu,uu,uu,uu,uu,uu,uu,uu,uu,uu,uu,uu,uu,uu,uu,uu,uu,uu,uu,uu,uu,uu,uu,uu,uu,uu,uu,uu,uu,uu,uu,uu,uu,uu,uu,uu,uu,uu,uu,uu,uu,uu,uu,uu,uu,uu,uu,uu,uu,uu,uu,uu,uu,uu,uu,uu,uu,uu,uu,uu,uu,uu,uu,uu,uu,uu,uu]→S'.take S.length=(S.set n (flat iA e2)).set n (flat iA e')→e'.size=N→b' - a' < b - a→a≤a'→b'≤b→a'≤b'→lim'≤2305843009213693952→Sort.Below (ltC cvF) a' b' e'→(∀R,Sort.PermIn a' b' e' R→Sort.SortedIn (ltC cvF) a' b' R→Sort.PermIn a b e2 R∧Sort.SortedIn (ltC cvF) a b R)→runLp C P false (zm false [0,5,5,2,136]) (y23m26 c) S.length [Item.blk 0] fr' ⟨S',H⟩ (fin S.length [] K):=by
    intro e2 hp a' b' lim' wb' wp' e' fr' S' k1 k2 k3 k4 k5 k6 k7 k8 k9 k10
    rw [List.set_set] at k2
    exact ih (a',b',lim',wb',wp',e') fr' S' H k4 ⟨k7,by dsimp only; omega,k3,k8,by dsimp only; omega,k9,fun R r1 r2=>by
      obtain ⟨q1,q2⟩:=k10 R r1 r2
      exact hfin R (Sort.permIn_trans _ _ _ _ _ hp q1) q2⟩ k1 k2 rfl
  have Sset2:∀z:Array Int,(S.set n (flat iA z))[n]? = some (flat iA z):=fun z=>sset hS
  have hlen:∀z:Array Int,S.length=(S.set n (flat iA z)).length:=fun z=>by simp
  have hwb1:IntKind.i64.wrap ((b:Int) - 1)=((b - 1:Nat):Int):=by rw [wrap_i64 (by omega) (by omega)]; omega
  have hwl1:IntKind.i64.wrap ((lim:Int) - 1)=((lim - 1:Nat):Int):=by rw [wrap_i64 (by omega) (by omega)]; omega
  have fin2:∀(e2:Array Int),Sort.PermIn a b e e2→e2.size=N∧b≤e2.size∧Sort.Below (ltC cvF) a b e2:=fun e2 hp=>⟨hp.1.trans hes,by rw [hp.1]; exact hbe,hB.perm hbe hp⟩
  cases wb with
  | false =>
    simp only [(Vz2 c).1,A_,simprocAttr,ne_eq,hw0,hlt,hlt0]
    refine h2.at n e a b _ _ _ (by first | exact hAsk | exact hAsk.setn | exact hAsk.setn.setn | exact hAsk.setm | exact hAsk.setm.setm | exact hAsk.app) hSe hes (by omega) hbN hN ?_
    rw [List.set_set]
    have p1:=Sort.breakPatterns_holds e a b hab hbe
    generalize Sort.breakPatterns e a b=e1 at p1 ⊢
    obtain ⟨s1,b1,B1⟩:=fin2 e1 p1
    simp only [(Vz2 c).1,A_,simprocAttr,ne_eq,hwl1]
    refine h3.at n e1 a b _ _ _ (by first | exact hAsk | exact hAsk.setn | exact hAsk.setn.setn | exact hAsk.setm | exact hAsk.setm.setm | exact hAsk.app) (Sset2 e1) s1 (by omega) hbN hN ?_
    obtain ⟨u1,u2⟩:=Sort.choosePivot_holds (ltC cvF) e1 a b (by omega)
    generalize Sort.choosePivot (ltC cvF) e1 a b=cp at u1 u2 ⊢
    obtain ⟨piv,hint⟩:=cp
    dsimp only at u1 u2 ⊢
    cases hint with
    | unknown =>
      simp only [(Vz2 c).1,A_,simprocAttr,ne_eq,hI]
      exact y23s19_run hw hC P h7 h8 h9 (by first | exact hAsk | exact hAsk.setn | exact hAsk.setn.setn | exact hAsk.setm | exact hAsk.setm.setm | exact hAsk.app) (Sset2 e1) (hlen e1) s1 u1 u2 hbN hN (by omega) (by omega) (by omega) B1 (loop2 e1 p1) _ _ _ _ _ _ _ _ _ _ _ _ _ _ _ _ _ _ _ _ _ _ _ _ _ _ _ _ _ _ _ _ _ _ _ _ _ _ _ _ _ _ _ _ _ _ _ _ _ _ _ _ _ _ _ _ _ _ _ _ _ _ _ _ _ _ _ _ _ _ _ _ _ _ _ _ _ _ _ _ _ _ _ _ _ _ _ _ _ _ _ _ _ _ _ _ _ _ _ _ _ _ _ _ _ _ _ _ _ _ _ _ _ _ _ _ _ _ _ _ _ _ _ _ _ _ _ _ _ _ _ _ _ _ _ _ _ _ _
    | increasing =>
      simp only [(Vz2 c).1,A_,simprocAttr,ne_eq,hI]
      exact y23s19_run hw hC P h7 h8 h9 (by first | exact hAsk | exact hAsk.setn | exact hAsk.setn.setn | exact hAsk.setm | exact hAsk.setm.setm | exact hAsk.app) (Sset2 e1) (hlen e1) s1 u1 u2 hbN hN (by omega) (by omega) (by omega) B1 (loop2 e1 p1) _ _ _ _ _ _ _ _ _ _ _ _ _ _ _ _ _ _ _ _ _ _ _ _ _ _ _ _ _ _ _ _ _ _ _ _ _ _ _ _ _ _ _ _ _ _ _ _ _ _ _ _ _ _ _ _ _ _ _ _ _ _ _ _ _ _ _ _ _ _ _ _ _ _ _ _ _ _ _ _ _ _ _ _ _ _ _ _ _ _ _ _ _ _ _ _ _ _ _ _ _ _ _ _ _ _ _ _ _ _ _ _ _ _ _ _ _ _ _ _ _ _ _ _ _ _ _ _ _ _ _ _ _ _ _ _ _ _ _
    | decreasing =>
      have hwp:IntKind.i64.wrap ((piv:Int) - (a:Int))=((piv - a:Nat):Int):=by rw [wrap_i64 (by omega) (by omega)]; omega
      have hwp2:IntKind.i64.wrap (((b - 1:Nat):Int) - ((piv - a:Nat):Int))=((b - 1 - (piv - a):Nat):Int):=by rw [wrap_i64 (by omega) (by omega)]; omega
      simp only [(Vz2 c).1,A_,simprocAttr,ne_eq,hI]
      refine h4.at n e1 a b _ _ _ (by first | exact hAsk | exact hAsk.setn | exact hAsk.setn.setn | exact hAsk.setm | exact hAsk.setm.setm | exact hAsk.app) (Sset2 e1) s1 (by omega) hbN hN ?_
      rw [List.set_set]
      have p2:=Sort.reverseRange_holds e1 a b hab b1
      generalize Sort.reverseRange e1 a b=e2 at p2 ⊢
      have p3:=Sort.permIn_trans _ _ _ _ _ p1 p2
      obtain ⟨s2,b2,B2⟩:=fin2 e2 p3
      simp only [(Vz2 c).1,A_,simprocAttr,ne_eq,hwb1,hwp,hwp2]
      exact y23s19_run hw hC P h7 h8 h9 (by first | exact hAsk | exact hAsk.setn | exact hAsk.setn.setn | exact hAsk.setm | exact hAsk.setm.setm | exact hAsk.app) (Sset2 e2) (hlen e2) s2 (by omega) (by omega) hbN hN (by omega) (by omega) (by omega) B2 (loop2 e2 p3) _ _ _ _ _ _ _ _ _ _ _ _ _ _ _ _ _ _ _ _ _ _ _ _ _ _ _ _ _ _ _ _ _ _ _ _ _ _ _ _ _ _ _ _ _ _ _ _ _ _ _ _ _ _ _ _ _ _ _ _ _ _ _ _ _ _ _ _ _ _ _ _ _ _ _ _ _ _ _ _ _ _ _ _ _ _ _ _ _ _ _ _ _ _ _ _ _ _ _ _ _ _ _ _ _ _ _ _ _ _ _ _ _ _ _ _ _ _ _ _ _ _ _ _ _ _ _ _ _ _ _ _ _ _ _ _ _ _ _
  | true =>
    simp only [(Vz2 c).1,A_,simprocAttr,ne_eq,hw0,hlt,hlt0]
    refine h3.at n e a b _ _ _ (by first | exact hAsk | exact hAsk.setn | exact hAsk.setn.setn | exact hAsk.setm | exact hAsk.setm.setm | exact hAsk.app) hSe hes (by omega) hbN hN ?_
    obtain ⟨u1,u2⟩:=Sort.choosePivot_holds (ltC cvF) e a b (by omega)
    generalize Sort.choosePivot (ltC cvF) e a b=cp at u1 u2 ⊢
    obtain ⟨piv,hint⟩:=cp
    dsimp only at u1 u2 ⊢
    have p0:=Sort.permIn_refl e a b
    obtain ⟨piv2,e1,p1,v1,v2,hst⟩:∃(piv2:Nat) (e1:Array Int),Sort.PermIn a b e e1∧a≤piv2∧piv2 < b∧True:=⟨piv,e,p0,u1,u2,trivial⟩
    clear hst v1 v2 p1 e1 piv2
    cases hint with
    | unknown =>
      cases wp <;>
      · simp only [(Vz2 c).1,A_,simprocAttr,ne_eq,hI]
        exact y23s19_run hw hC P h7 h8 h9 (by first | exact hAsk | exact hAsk.setn | exact hAsk.setn.setn | exact hAsk.setm | exact hAsk.setm.setm | exact hAsk.app) hSe (hlen e) hes u1 u2 hbN hN (by omega) hlim (by omega) hB (loop2 e p0) _ _ _ _ _ _ _ _ _ _ _ _ _ _ _ _ _ _ _ _ _ _ _ _ _ _ _ _ _ _ _ _ _ _ _ _ _ _ _ _ _ _ _ _ _ _ _ _ _ _ _ _ _ _ _ _ _ _ _ _ _ _ _ _ _ _ _ _ _ _ _ _ _ _ _ _ _ _ _ _ _ _ _ _ _ _ _ _ _ _ _ _ _ _ _ _ _ _ _ _ _ _ _ _ _ _ _ _ _ _ _ _ _ _ _ _ _ _ _ _ _ _ _ _ _ _ _ _ _ _ _ _ _ _ _ _ _ _ _
    | increasing =>
      cases wp with
      | false =>
        simp only [(Vz2 c).1,A_,simprocAttr,ne_eq,hI]
        exact y23s19_run hw hC P h7 h8 h9 (by first | exact hAsk | exact hAsk.setn | exact hAsk.setn.setn | exact hAsk.setm | exact hAsk.setm.setm | exact hAsk.app) hSe (hlen e) hes u1 u2 hbN hN (by omega) hlim (by omega) hB (loop2 e p0) _ _ _ _ _ _ _ _ _ _ _ _ _ _ _ _ _ _ _ _ _ _ _ _ _ _ _ _ _ _ _ _ _ _ _ _ _ _ _ _ _ _ _ _ _ _ _ _ _ _ _ _ _ _ _ _ _ _ _ _ _ _ _ _ _ _ _ _ _ _ _ _ _ _ _ _ _ _ _ _ _ _ _ _ _ _ _ _ _ _ _ _ _ _ _ _ _ _ _ _ _ _ _ _ _ _ _ _ _ _ _ _ _ _ _ _ _ _ _ _ _ _ _ _ _ _ _ _ _ _ _ _ _ _ _ _ _ _ _
      | true =>
        simp only [(Vz2 c).1,A_,simprocAttr,ne_eq,hI]
        refine h5.at n e a b _ _ _ (by first | exact hAsk | exact hAsk.setn | exact hAsk.setn.setn | exact hAsk.setm | exact hAsk.setm.setm | exact hAsk.app) hSe hes (by omega) hbN hN ?_
        rw [List.set_set]
        obtain ⟨q1,q2⟩:=Sort.partialInsertionSort_holds hw e a b (by omega) hbe hB
        have q1':Sort.PermIn a b e (Sort.partialInsertionSort (ltC cvF) e a b).1:=q1
        have q2':(Sort.partialInsertionSort (ltC cvF) e a b).2=true→Sort.SortedIn (ltC cvF) a b (Sort.partialInsertionSort (ltC cvF) e a b).1:=q2
        clear q1 q2
        generalize Sort.partialInsertionSort (ltC cvF) e a b=pr at q1' q2' ⊢
        obtain ⟨e3,ok⟩:=pr
        dsimp only at q1' q2' ⊢
        cases ok with
        | true =>
          obtain ⟨q3,q4⟩:=hfin _ q1' (q2' rfl)
          simp only [(Vz2 c).1,A_,simprocAttr,ne_eq]
          exact hK _ q3 q4
        | false =>
          obtain ⟨s3,b3,B3⟩:=fin2 e3 q1'
          simp only [(Vz2 c).1,A_,simprocAttr,ne_eq]
          exact y23s19_run hw hC P h7 h8 h9 (by first | exact hAsk | exact hAsk.setn | exact hAsk.setn.setn | exact hAsk.setm | exact hAsk.setm.setm | exact hAsk.app) (Sset2 e3) (hlen e3) s3 u1 u2 hbN hN (by omega) hlim (by omega) B3 (loop2 e3 q1') _ _ _ _ _ _ _ _ _ _ _ _ _ _ _ _ _ _ _ _ _ _ _ _ _ _ _ _ _ _ _ _ _ _ _ _ _ _ _ _ _ _ _ _ _ _ _ _ _ _ _ _ _ _ _ _ _ _ _ _ _ _ _ _ _ _ _ _ _ _ _ _ _ _ _ _ _ _ _ _ _ _ _ _ _ _ _ _ _ _ _ _ _ _ _ _ _ _ _ _ _ _ _ _ _ _ _ _ _ _ _ _ _ _ _ _ _ _ _ _ _ _ _ _ _ _ _ _ _ _ _ _ _ _ _ _ _ _ _
    | decreasing =>
      have hwp:IntKind.i64.wrap ((piv:Int) - (a:Int))=((piv - a:Nat):Int):=by rw [wrap_i64 (by omega) (by omega)]; omega
      have hwp2:IntKind.i64.wrap (((b - 1:Nat):Int) - ((piv - a:Nat):Int))=((b - 1 - (piv - a):Nat):Int):=by rw [wrap_i64 (by omega) (by omega)]; omega
      simp only [(Vz2 c).1,A_,simprocAttr,ne_eq,hI]
      refine h4.at n e a b _ _ _ (by first | exact hAsk | exact hAsk.setn | exact hAsk.setn.setn | exact hAsk.setm | exact hAsk.setm.setm | exact hAsk.app) hSe hes (by omega) hbN hN ?_
      rw [List.set_set]
      have p2:=Sort.reverseRange_holds e a b hab hbe
      generalize Sort.reverseRange e a b=e2 at p2 ⊢
      obtain ⟨s2,b2,B2⟩:=fin2 e2 p2
      cases wp with
      | false =>
        simp only [(Vz2 c).1,A_,simprocAttr,ne_eq,hwb1,hwp,hwp2]
        exact y23s19_run hw hC P h7 h8 h9 (by first | exact hAsk | exact hAsk.setn | exact hAsk.setn.setn | exact hAsk.setm | exact hAsk.setm.setm | exact hAsk.app) (Sset2 e2) (hlen e2) s2 (by omega) (by omega) hbN hN (by omega) hlim (by omega) B2 (loop2 e2 p2) _ _ _ _ _ _ _ _ _ _ _ _ _ _ _ _ _ _ _ _ _ _ _ _ _ _ _ _ _ _ _ _ _ _ _ _ _ _ _ _ _ _ _ _ _ _ _ _ _ _ _ _ _ _ _ _ _ _ _ _ _ _ _ _ _ _ _ _ _ _ _ _ _ _ _ _ _ _ _ _ _ _ _ _ _ _ _ _ _ _ _ _ _ _ _ _ _ _ _ _ _ _ _ _ _ _ _ _ _ _ _ _ _ _ _ _ _ _ _ _ _ _ _ _ _ _ _ _ _ _ _ _ _ _ _ _ _ _ _
      | true =>
        simp only [(Vz2 c).1,A_,simprocAttr,ne_eq,hwb1,hwp,hwp2]
        refine h5.at n e2 a b _ _ _ (by first | exact hAsk | exact hAsk.setn | exact hAsk.setn.setn | exact hAsk.setm | exact hAsk.setm.setm | exact hAsk.app) (Sset2 e2) s2 (by omega) hbN hN ?_
        rw [List.set_set]
        obtain ⟨q1,q2⟩:=Sort.partialInsertionSort_holds hw e2 a b (by omega) b2 B2
        have q1':Sort.PermIn a b e2 (Sort.partialInsertionSort (ltC cvF) e2 a b).1:=q1
        have q2':(Sort.partialInsertionSort (ltC cvF) e2 a b).2=true→Sort.SortedIn (ltC cvF) a b (Sort.partialInsertionSort (ltC cvF) e2 a b).1:=q2
        clear q1 q2
        generalize Sort.partialInsertionSort (ltC cvF) e2 a b=pr at q1' q2' ⊢
        obtain ⟨e3,ok⟩:=pr
        dsimp only at q1' q2' ⊢
        have q1':=Sort.permIn_trans _ _ _ _ _ p2 q1'
        cases ok with
        | true =>
          obtain ⟨q3,q4⟩:=hfin _ q1' (q2' rfl)
          simp only [(Vz2 c).1,A_,simprocAttr,ne_eq]
          exact hK _ q3 q4
        | false =>
          obtain ⟨s3,b3,B3⟩:=fin2 e3 q1'
          simp only [(Vz2 c).1,A_,simprocAttr,ne_eq]
          exact y23s19_run hw hC P h7 h8 h9 (by first | exact hAsk | exact hAsk.setn | exact hAsk.setn.setn | exact hAsk.setm | exact hAsk.setm.setm | exact hAsk.app) (Sset2 e3) (hlen e3) s3 (by omega) (by omega) hbN hN (by omega) hlim (by omega) B3 (loop2 e3 q1') _ _ _ _ _ _ _ _ _ _ _ _ _ _ _ _ _ _ _ _ _ _ _ _ _ _ _ _ _ _ _ _ _ _ _ _ _ _ _ _ _ _ _ _ _ _ _ _ _ _ _ _ _ _ _ _ _ _ _ _ _ _ _ _ _ _ _ _ _ _ _ _ _ _ _ _ _ _ _ _ _ _ _ _ _ _ _ _ _ _ _ _ _ _ _ _ _ _ _ _ _ _ _ _ _ _ _ _ _ _ _ _ _ _ _ _ _ _ _ _ _ _ _ _ _ _ _ _ _ _ _ _ _ _ _ _ _ _ _
end Go.AM
namespace Go.AM
open Go
set_option maxRecDepth 20000
def y24a1 (c:Nat→FuncId):LCode:=(.seq (.tree (.rd (zs 6 (.load1 false (.t 2))) 0 false (.rd (zs 7 (.nilc (.t 6))) 1 false (.rd (zs 8 (.shift 2 (.t 7))) 2 false (.rd (zs 9 (.load1 false (.t 8))) 3 false (.rd (zv 10 0) 4 false (.rd (zs 11 (.look (.one (.int .i64)) (.s (.int .i64 0)) false (.t 9) (.t 10))) 5 false (.rd (zs 12 (.load1 false (.t 2))) 6 false (.rd (zs 13 (.nilc (.t 12))) 7 false (.rd (zs 14 (.shift 2 (.t 13))) 8 false (.rd (zs 15 (.load1 false (.t 14))) 9 false (.rd (zv 16 1) 10 false (.rd (zs 17 (.look (.one (.int .i64)) (.s (.int .i64 0)) false (.t 15) (.t 16))) 11 false (.rd (zv 19 0) 13 true (.rd (zv 20 1) 14 true (.mv (zs 18 (.call (.f (c 0)) [(.t 11),(.t 17)])) [0,1,2,3,4,5,6,7,8,9,10,11] (.mv (zs 21 (.call (.f (c 0)) [(.t 19),(.t 20)])) [0,1,2,3,4,5,6,7,8,9,10,11,12,13,14] (.rd (zs 22 (.bsl ⟨1,false,8,(.s (.int .i64 0))⟩ 2 [(0,(.t 18)),(1,(.t 21))])) 16 false (.mv (zs 23 (.call (.f (c 1)) [(.t 22)])) [0,1,2,3,4,5,6,7,8,9,10,11,12,13,14,15,16] (.mv (zs 5 (.mv true (.t 23))) [0,1,2,3,4,5,6,7,8,9,10,11,12,13,14,15,16,17] .done .stop) .stop)) .stop) .stop)))))))))))))))) .ret)
def Uz29 (c:Nat→FuncId):=PLift.up (@unfC _ _ (y24a1.eq_1 c))
def Cz1e (c:Nat→FuncId):LFn:=⟨24,[.t 5],(.seq (.sq [(zs 5 (.mv true (zi 0)))]) (y24a1 c))⟩
def Cz2u (c:Nat→FuncId):LFn:=⟨4,[.t 2],(.seq (.sq [(zs 1 (.box false true (.t 0))),(zs 2 (.mv true (.c .nilF)))]) (.seq (.sq [(zs 3 (.mkfn (c 0) [] [(.t 1)])),(zs 2 (.mv true (.t 3)))]) .ret))⟩
def y24b1:LCode:=(.seq (.sq [(zv 11 0),(zv 12 4),(zs 13 (.call (.t 11) [(.t 12)])),(zs 14 (.un .not (.t 13)))]) (.cond (.t 14) .ret .skip))
def y24b2:LCode:=(.block 1 (.seq (.sq [(zs 9 (.ent (.t 6))),(zs 10 (.ext (.t 9) 1)),(zs 4 (.mv true (.t 10)))]) y24b1))
def y24b3:LCode:=(.seq (.sq [(zs 7 (.nxt (.t 6))),(zs 8 (.ext (.t 7) 0))]) (.seq (.cond (.t 8) .skip (.exit 0)) y24b2))
def y24b4:LCode:=(.block 0 (.loop (zm false [0,1,5,1,8]) y24b3))
def Uz1a:=PLift.up (zc (zc (@unfC _ _ (y24b1.eq_1)) (@unfC _ _ (y24b2.eq_1))) (zc (@unfC _ _ (y24b3.eq_1)) (@unfC _ _ (y24b4.eq_1))))
def Cz14:LFn:=⟨15,[],(.seq (.sq [(zs 5 (.load1 false (.t 1))),(zs 6 (.rng (.t 5)))]) y24b4)⟩
def y24c1:LCode:=(.cond (.t 9) (.seq (.sq [(zs 2 (.mv true (.c .nilP))),(zs 3 (.mv true (zi 1)))]) .ret) .skip)
def y24c2:LCode:=(.seq (.sq [(zv 10 0),(zs 11 (.mkmap none)),(zs 12 (.build [(.s (.int .i64 0)),(.s (.int .i64 0)),(.s .nilM)] [(0,1,(.t 10)),(2,1,(.t 11))])),(zs 13 (.box false true (.t 12))),(zs 2 (.mv true (.t 13))),(zs 3 (.mv true (zi 0)))]) .ret)
def y24c3:LCode:=(.seq (.seq (.sq [(zv 4 0),(zs 5 (.bin .lss .sc (.t 4) (zi 1))),(zv 6 5),(zf 7 6 (.mv false (.t 0))),(zf 8 6 (.bin .gtr .sc (.t 7) (zi 1000))),(zs 9 (.pick (.t 6) zT (.t 8)))]) y24c1) y24c2)
def Uz53:=PLift.up (zc (@unfC _ _ (y24c1.eq_1)) (zc (@unfC _ _ (y24c2.eq_1)) (@unfC _ _ (y24c3.eq_1))))
def Cz3d:LFn:=⟨14,[.t 2,.t 3],(.seq (.sq [(zs 2 (.mv true (.c .nilP))),(zs 3 (.mv true (zi 0)))]) y24c3)⟩
def y24d1:LCode:=(.seq (.tree (.rd (zv 26 8) 0 false (.rd (zs 27 (.un .not (.t 26))) 1 false (.rd (zv 28 27) 2 false (.rd (zt 29 28 (.mv false (.t 0))) 3 false (.rd (zt 30 28 (.nilc (.t 29))) 4 false (.rd (zt 31 28 (.shift 2 (.t 30))) 5 false (.rd (zt 32 28 (.load1 false (.t 31))) 6 false (.rd (zt 33 28 (.len .map (.t 32))) 7 false (.rd (zt 34 28 (.mv false (.t 0))) 8 false (.rd (zt 35 28 (.nilc (.t 34))) 9 false (.rd (zt 36 28 (.shift 0 (.t 35))) 10 false (.rd (zt 37 28 (.load1 false (.t 36))) 11 false (.rd (zt 38 28 (.bin .geq .sc (.t 33) (.t 37))) 12 false (.rd (zs 39 (.pick (.t 28) (.t 38) zF)) 13 false (.mv (zs 25 (.mv true (.t 39))) [0,1,2,3,4,5,6,7,8,9,10,11,12,13] .done .stop)))))))))))))))) (.cond (.t 25) (.seq (.sq [(zs 6 (.mv true (zi 6)))]) .ret) .skip))
def y24d2:LCode:=(.seq (.sq [(zv 40 0),(zs 41 (.nilc (.t 40))),(zs 42 (.shift 2 (.t 41))),(zs 43 (.load1 false (.t 42))),(zv 44 1),(zv 45 2),(zn (.upd (.one (.int .i64)) (.t 43) (.t 44) (.t 45)))]) (.seq (.sq [(zs 6 (.mv true (zi 0)))]) .ret))
def y24d3:LCode:=(.seq (.block 0 (.seq (.sq [(zv 19 2),(zv 20 0),(zs 21 (.nilc (.t 20))),(zs 22 (.shift 1 (.t 21))),(zs 23 (.load1 false (.t 22))),(zs 24 (.bin .leq .sc (.t 19) (.t 23))),(zs 18 (.mv true (.t 24)))]) (.cond (.t 18) (.seq (.sq [(zs 6 (.mv true (zi 10)))]) .ret) y24d1))) y24d2)
def y24d4:LCode:=(.seq (.sq [(zv 10 0),(zs 11 (.nilc (.t 10))),(zs 12 (.shift 2 (.t 11))),(zs 13 (.load1 false (.t 12))),(zv 14 1),(zs 15 (.look (.one (.int .i64)) (.s (.int .i64 0)) true (.t 13) (.t 14))),(zv 9 15),(zs 16 (.ext (.t 9) 0)),(zs 17 (.ext (.t 9) 1)),(zs 7 (.mv true (.t 16))),(zs 8 (.mv true (.t 17)))]) y24d3)
def Uz2q:=PLift.up (zc (zc (@unfC _ _ (y24d1.eq_1)) (@unfC _ _ (y24d2.eq_1))) (zc (@unfC _ _ (y24d3.eq_1)) (@unfC _ _ (y24d4.eq_1))))
def Cz2a:LFn:=⟨46,[.t 6],(.seq (.sq [(zs 6 (.mv true (zi 0)))]) y24d4)⟩
def y24e1:LCode:=(.seq (.sq [(zv 16 0),(zs 17 (.nilc (.t 16))),(zs 18 (.shift 2 (.t 17))),(zs 19 (.load1 false (.t 18))),(zv 20 1),(zn (.del (.one (.int .i64)) (.t 19) (.t 20)))]) (.seq (.sq [(zv 21 6),(zs 4 (.mv true (.t 21)))]) .ret))
def y24e2:LCode:=(.seq (.sq [(zv 8 0),(zs 9 (.nilc (.t 8))),(zs 10 (.shift 2 (.t 9))),(zs 11 (.load1 false (.t 10))),(zv 12 1),(zs 13 (.look (.one (.int .i64)) (.s (.int .i64 0)) true (.t 11) (.t 12))),(zv 7 13),(zs 14 (.ext (.t 7) 0)),(zs 15 (.ext (.t 7) 1)),(zs 5 (.mv true (.t 14))),(zs 6 (.mv true (.t 15)))]) y24e1)
def Uz4k:=PLift.up (zc (@unfC _ _ (y24e1.eq_1)) (@unfC _ _ (y24e2.eq_1)))
def Cz2r:LFn:=⟨22,[.t 4],(.seq (.sq [(zs 4 (.mv true zF))]) y24e2)⟩
def y24f1 (c:Nat→FuncId):LCode:=(.sq [(zs 33 (.mv true (.t 5))),(zv 34 6),(zs 35 (.bsl ⟨1,false,8,(.s (.int .i64 0))⟩ 1 [(0,(.t 34))])),(zs 36 (.app ⟨1,false,8,(.s (.int .i64 0))⟩ false (.t 33) (.t 35))),(zs 5 (.mv true (.t 36)))])
def y24f2 (c:Nat→FuncId):LCode:=(.seq (.sq [(zv 30 7),(zv 31 1),(zs 32 (.bin .leq .sc (.t 30) (.t 31)))]) (.cond (.t 32) (y24f1 c) .skip))
def y24f3 (c:Nat→FuncId):LCode:=(.block 1 (.seq (.sq [(zs 27 (.ent (.t 24))),(zs 28 (.ext (.t 27) 0)),(zs 29 (.ext (.t 27) 1)),(zs 6 (.mv true (.t 28))),(zs 7 (.mv true (.t 29)))]) (y24f2 c)))
def y24f4 (c:Nat→FuncId):LCode:=(.seq (.sq [(zs 25 (.nxt (.t 24))),(zs 26 (.ext (.t 25) 0))]) (.seq (.cond (.t 26) .skip (.exit 0)) (y24f3 c)))
def y24f5 (c:Nat→FuncId):LCode:=(.block 0 (.loop (zm false [1,2,2,1,18,1,28]) (y24f4 c)))
def y24f6 (c:Nat→FuncId):LCode:=(.sq [(zs 46 (.load1 false (.t 2))),(zs 47 (.nilc (.t 46))),(zs 48 (.shift 2 (.t 47))),(zs 49 (.load1 false (.t 48))),(zv 50 9),(zn (.del (.one (.int .i64)) (.t 49) (.t 50)))])
def y24f7 (c:Nat→FuncId):LCode:=(.seq (.block 3 (.seq (.sq [(zs 44 (.ixa (.sl 1) (.t 40) (.t 42))),(zs 45 (.load1 false (.t 44))),(zs 9 (.mv true (.t 45)))]) (y24f6 c))) (.sq [(zs 51 (.bin .add .sc (.t 42) (zi 1))),(zv 42 51)]))
def y24f8 (c:Nat→FuncId):LCode:=(.seq (.sq [(zs 43 (.bin .lss .sc (.t 42) (.t 41)))]) (.seq (.cond (.t 43) .skip (.exit 2)) (y24f7 c)))
def y24f9 (c:Nat→FuncId):LCode:=(.block 2 (.loop (zm false [2,1,2,1,34,3,10]) (y24f8 c)))
def y24f10 (c:Nat→FuncId):LCode:=(.seq (.sq [(zs 52 (.frz ⟨1,false,8,(.s (.int .i64 0))⟩ (.t 5))),(zs 4 (.mv true (.t 52)))]) .ret)
def y24f11 (c:Nat→FuncId):LCode:=(.seq (.seq (.sq [(zv 40 5),(zs 41 (.len .sl (.t 40))),(zs 42 (.mv false (zi 0)))]) (y24f9 c)) (y24f10 c))
def y24f12 (c:Nat→FuncId):LCode:=(.seq (.sq [(zs 37 (.thaw 5)),(zs 38 (.mkfn (c 0) [] [(.t 2)])),(zs 39 (.call (.f (c 1)) [(.t 37),(.t 38)]))]) (y24f11 c))
def y24f13 (c:Nat→FuncId):LCode:=(.seq (.seq (.sq [(zs 20 (.load1 false (.t 2))),(zs 21 (.nilc (.t 20))),(zs 22 (.shift 2 (.t 21))),(zs 23 (.load1 false (.t 22))),(zs 24 (.rng (.t 23)))]) (y24f5 c)) (y24f12 c))
def y24f14 (c:Nat→FuncId):LCode:=(.seq (.sq [(zs 16 (.load1 false (.t 2))),(zv 17 1),(zs 18 (.nilc (.t 16))),(zs 19 (.shift 1 (.t 18))),(zn (.store 1 (.t 19) (.t 17)))]) (.seq (.sq [(zs 5 (.mv true (.c .nilS)))]) (y24f13 c)))
def y24f15 (c:Nat→FuncId):LCode:=(.seq (.seq (.sq [(zv 10 1),(zs 11 (.load1 false (.t 2))),(zs 12 (.nilc (.t 11))),(zs 13 (.shift 1 (.t 12))),(zs 14 (.load1 false (.t 13))),(zs 15 (.bin .lss .sc (.t 10) (.t 14)))]) (.cond (.t 15) (.seq (.sq [(zs 4 (.mv true (.c .nilS)))]) .ret) .skip)) (y24f14 c))
def Uzk (c:Nat→FuncId):=PLift.up (zc (zc (zc (@unfC _ _ (y24f1.eq_1 c)) (zc (@unfC _ _ (y24f2.eq_1 c)) (@unfC _ _ (y24f3.eq_1 c)))) (zc (zc (@unfC _ _ (y24f4.eq_1 c)) (@unfC _ _ (y24f5.eq_1 c))) (zc (@unfC _ _ (y24f6.eq_1 c)) (@unfC _ _ (y24f7.eq_1 c))))) (zc (zc (zc (@unfC _ _ (y24f8.eq_1 c)) (@unfC _ _ (y24f9.eq_1 c))) (zc (@unfC _ _ (y24f10.eq_1 c)) (@unfC _ _ (y24f11.eq_1 c)))) (zc (zc (@unfC _ _ (y24f12.eq_1 c)) (@unfC _ _ (y24f13.eq_1 c))) (zc (@unfC _ _ (y24f14.eq_1 c)) (@unfC _ _ (y24f15.eq_1 c))))))
def Czg (c:Nat→FuncId):LFn:=⟨53,[.t 4],(.seq (.sq [(zs 2 (.box false false (.t 0))),(zs 4 (.mv true (.c .nilS)))]) (y24f15 c))⟩
def y24g1:LCode:=(.seq (.sq [(zv 3 0),(zs 4 (.nilc (.t 3))),(zs 5 (.shift 2 (.t 4))),(zs 6 (.load1 false (.t 5))),(zs 7 (.len .map (.t 6))),(zs 2 (.mv true (.t 7)))]) .ret)
def Uz5b:=PLift.up (@unfC _ _ (y24g1.eq_1))
def Cz36:LFn:=⟨8,[.t 2],(.seq (.sq [(zs 2 (.mv true (zi 0)))]) y24g1)⟩
def y24h1 (c:Nat→FuncId):LCode:=(.cond (.t 13) (.seq (.sq [(zs 2 (.mv true (zi 0))),(zs 3 (.mv true zF))]) .ret) .skip)
def y24h2 (c:Nat→FuncId):LCode:=(.seq (.sq [(zv 14 4),(zs 15 (.ixa (.sl 1) (.t 14) (zi 0))),(zs 16 (.load1 false (.t 15))),(zs 2 (.mv true (.t 16))),(zs 3 (.mv true zT))]) .ret)
def y24h3 (c:Nat→FuncId):LCode:=(.seq (.seq (.sq [(zv 11 4),(zs 12 (.len .sl (.t 11))),(zs 13 (.bin .eql .sc (.t 12) (zi 0)))]) (y24h1 c)) (y24h2 c))
def y24h4 (c:Nat→FuncId):LCode:=(.seq (.sq [(zv 5 0),(zs 6 (.nilc (.t 5))),(zs 7 (.shift 2 (.t 6))),(zs 8 (.load1 false (.t 7))),(zs 9 (.call (.f (c 0)) [(.t 8)])),(zs 10 (.call (.f (c 1)) [(.t 9)])),(zs 4 (.mv true (.t 10)))]) (y24h3 c))
def Uz2m (c:Nat→FuncId):=PLift.up (zc (zc (@unfC _ _ (y24h1.eq_1 c)) (@unfC _ _ (y24h2.eq_1 c))) (zc (@unfC _ _ (y24h3.eq_1 c)) (@unfC _ _ (y24h4.eq_1 c))))
def Cz21 (c:Nat→FuncId):LFn:=⟨17,[.t 2,.t 3],(.seq (.sq [(zs 2 (.mv true (zi 0))),(zs 3 (.mv true zF))]) (y24h4 c))⟩
def y24i1:LCode:=(.seq (.sq [(zv 3 0),(zs 4 (.nilc (.t 3))),(zs 5 (.shift 1 (.t 4))),(zs 6 (.load1 false (.t 5))),(zs 2 (.mv true (.t 6)))]) .ret)
def Uz5c:=PLift.up (@unfC _ _ (y24i1.eq_1))
def Cz37:LFn:=⟨7,[.t 2],(.seq (.sq [(zs 2 (.mv true (zi 0)))]) y24i1)⟩
def y24j1:LCode:=(.sq [(zs 27 (.mv true (.t 5))),(zv 28 0),(zs 29 (.nilc (.t 28))),(zs 30 (.shift 2 (.t 29))),(zs 31 (.load1 false (.t 30))),(zv 32 6),(zs 33 (.ixa (.sl 2) (.t 31) (.t 32))),(zs 34 (.loadA 2 (.t 33))),(zs 35 (.bsl ⟨2,true,16,(.agg [(.s (.int .i64 0)),(.s (.int .i64 0))])⟩ 1 [(0,(.t 34))])),(zs 36 (.app ⟨2,true,16,(.agg [(.s (.int .i64 0)),(.s (.int .i64 0))])⟩ false (.t 27) (.t 35))),(zs 5 (.mv true (.t 36)))])
def y24j2:LCode:=(.sq [(zv 15 6),(zs 16 (.bin .add .sc (.t 15) (zi 1))),(zs 6 (.mv true (.t 16)))])
def y24j3:LCode:=(.seq (.block 1 (.seq (.sq [(zv 17 0),(zs 18 (.nilc (.t 17))),(zs 19 (.shift 2 (.t 18))),(zs 20 (.load1 false (.t 19))),(zv 21 6),(zs 22 (.ixa (.sl 2) (.t 20) (.t 21))),(zs 23 (.shift 0 (.t 22))),(zs 24 (.load1 false (.t 23))),(zv 25 1),(zs 26 (.bin .neq .sc (.t 24) (.t 25)))]) (.cond (.t 26) y24j1 .skip))) y24j2)
def y24j4:LCode:=(.seq (.seq (.sq [(zv 8 6),(zv 9 0),(zs 10 (.nilc (.t 9))),(zs 11 (.shift 2 (.t 10))),(zs 12 (.load1 false (.t 11))),(zs 13 (.len .sl (.t 12))),(zs 14 (.bin .lss .sc (.t 8) (.t 13)))]) (.cond (.t 14) .skip (.exit 0))) y24j3)
def y24j5:LCode:=(.block 0 (.loop (zm false [0,2,3,2,43]) y24j4))
def y24j6:LCode:=(.seq (.sq [(zv 46 5),(zs 47 (.len .sl (.t 46))),(zv 48 7),(zs 49 (.bin .lss .sc (.t 47) (.t 48))),(zs 4 (.mv true (.t 49)))]) .ret)
def y24j7:LCode:=(.seq (.sq [(zv 42 0),(zv 43 5),(zs 44 (.nilc (.t 42))),(zs 45 (.shift 2 (.t 44))),(zn (.store 1 (.t 45) (.t 43)))]) y24j6)
def y24j8:LCode:=(.seq (.sq [(zv 37 0),(zs 38 (.nilc (.t 37))),(zs 39 (.shift 2 (.t 38))),(zs 40 (.load1 false (.t 39))),(zs 41 (.len .sl (.t 40))),(zs 7 (.mv true (.t 41)))]) y24j7)
def y24j9:LCode:=(.seq (.seq (.sq [(zs 6 (.mv true (zi 0)))]) y24j5) y24j8)
def Uzu:=PLift.up (zc (zc (zc (@unfC _ _ (y24j1.eq_1)) (@unfC _ _ (y24j2.eq_1))) (zc (@unfC _ _ (y24j3.eq_1)) (@unfC _ _ (y24j4.eq_1)))) (zc (zc (@unfC _ _ (y24j5.eq_1)) (@unfC _ _ (y24j6.eq_1))) (zc (@unfC _ _ (y24j7.eq_1)) (zc (@unfC _ _ (y24j8.eq_1)) (@unfC _ _ (y24j9.eq_1))))))
def Czr:LFn:=⟨50,[.t 4],(.seq (.sq [(zs 4 (.mv true zF))]) (.seq (.sq [(zs 5 (.mv true (.c .nilS)))]) y24j9))⟩
def y24k1 (c:Nat→FuncId):LCode:=(.sq [(zv 35 7),(zs 36 (.bin .add .sc (.t 35) (zi 1))),(zs 7 (.mv true (.t 36)))])
def y24k2 (c:Nat→FuncId):LCode:=(.sq [(zv 23 8),(zs 24 (.bin .add .sc (.t 23) (zi 1))),(zs 8 (.mv true (.t 24)))])
def y24k3 (c:Nat→FuncId):LCode:=(.seq (.block 1 (.seq (.sq [(zv 25 0),(zs 26 (.nilc (.t 25))),(zs 27 (.shift 2 (.t 26))),(zs 28 (.load1 false (.t 27))),(zv 29 8),(zs 30 (.ixa (.sl 2) (.t 28) (.t 29))),(zs 31 (.shift 0 (.t 30))),(zs 32 (.load1 false (.t 31))),(zv 33 1),(zs 34 (.bin .neq .sc (.t 32) (.t 33)))]) (.cond (.t 34) (y24k1 c) .skip))) (y24k2 c))
def y24k4 (c:Nat→FuncId):LCode:=(.seq (.seq (.sq [(zv 16 8),(zv 17 0),(zs 18 (.nilc (.t 17))),(zs 19 (.shift 2 (.t 18))),(zs 20 (.load1 false (.t 19))),(zs 21 (.len .sl (.t 20))),(zs 22 (.bin .lss .sc (.t 16) (.t 21)))]) (.cond (.t 22) .skip (.exit 0))) (y24k3 c))
def y24k5 (c:Nat→FuncId):LCode:=(.block 0 (.loop (zm false [0,3,4,2,105]) (y24k4 c)))
def y24k6 (c:Nat→FuncId):LCode:=(.block 3 (.sq [(zv 89 9),(zs 90 (.bin .add .sc (.t 89) (zi 1))),(zs 9 (.mv true (.t 90)))]))
def y24k7 (c:Nat→FuncId):LCode:=(.seq (.seq (.sq [(zv 46 9),(zv 47 0),(zs 48 (.nilc (.t 47))),(zs 49 (.shift 2 (.t 48))),(zs 50 (.load1 false (.t 49))),(zs 51 (.len .sl (.t 50))),(zs 52 (.bin .lss .sc (.t 46) (.t 51))),(zv 53 52),(zt 54 53 (.mv false (.t 0))),(zt 55 53 (.nilc (.t 54))),(zt 56 53 (.shift 2 (.t 55))),(zt 57 53 (.load1 false (.t 56))),(zt 58 53 (.mv false (.t 9))),(zt 59 53 (.ixa (.sl 2) (.t 57) (.t 58))),(zt 60 53 (.shift 1 (.t 59))),(zt 61 53 (.load1 false (.t 60))),(zt 62 53 (.mv false (.t 2))),(zt 63 53 (.bin .lss .sc (.t 61) (.t 62))),(zt 64 53 (.mv false (.t 63))),(zf 65 64 (.mv false (.t 0))),(zf 66 64 (.nilc (.t 65))),(zf 67 64 (.shift 2 (.t 66))),(zf 68 64 (.load1 false (.t 67))),(zf 69 64 (.mv false (.t 9))),(zf 70 64 (.ixa (.sl 2) (.t 68) (.t 69))),(zf 71 64 (.shift 1 (.t 70))),(zf 72 64 (.load1 false (.t 71))),(zf 73 64 (.mv false (.t 2))),(zf 74 64 (.bin .eql .sc (.t 72) (.t 73))),(zf 75 64 (.mv false (.t 74))),(zt 76 75 (.mv false (.t 0))),(zt 77 75 (.nilc (.t 76))),(zt 78 75 (.shift 2 (.t 77))),(zt 79 75 (.load1 false (.t 78))),(zt 80 75 (.mv false (.t 9))),(zt 81 75 (.ixa (.sl 2) (.t 79) (.t 80))),(zt 82 75 (.shift 0 (.t 81))),(zt 83 75 (.load1 false (.t 82))),(zt 84 75 (.mv false (.t 1))),(zt 85 75 (.bin .lss .sc (.t 83) (.t 84))),(zf 86 64 (.pick (.t 75) (.t 85) zF)),(zt 87 53 (.pick (.t 64) zT (.t 86))),(zs 88 (.pick (.t 53) (.t 87) zF))]) (.cond (.t 88) .skip (.exit 2))) (y24k6 c))
def y24k8 (c:Nat→FuncId):LCode:=(.seq (.tree (.rd (zv 91 0) 0 true (.rd (zs 92 (.bsl ⟨2,true,16,(.agg [(.s (.int .i64 0)),(.s (.int .i64 0))])⟩ 0 [])) 1 false (.rd (zv 93 0) 2 false (.rd (zs 94 (.nilc (.t 93))) 3 false (.rd (zs 95 (.shift 2 (.t 94))) 4 false (.rd (zs 96 (.load1 false (.t 95))) 5 false (.rd (zv 97 9) 6 false (.rd (zs 98 (.slc (.sl 2) (.t 96) none (some (.t 97)) none)) 7 false (.rd (zv 100 1) 9 true (.rd (zv 101 2) 10 true (.rd (zs 102 (.build [(.s (.int .i64 0)),(.s (.int .i64 0))] [(0,1,(.t 100)),(1,1,(.t 101))])) 11 true (.rd (zs 103 (.bsl ⟨2,true,16,(.agg [(.s (.int .i64 0)),(.s (.int .i64 0))])⟩ 1 [(0,(.t 102))])) 12 true (.rd (zv 105 0) 14 true (.rd (zs 106 (.nilc (.t 105))) 15 true (.rd (zs 107 (.shift 2 (.t 106))) 16 true (.rd (zs 108 (.load1 false (.t 107))) 17 true (.rd (zv 109 9) 18 true (.rd (zs 110 (.slc (.sl 2) (.t 108) (some (.t 109)) none none)) 19 true (.mv (zs 99 (.app ⟨2,true,16,(.agg [(.s (.int .i64 0)),(.s (.int .i64 0))])⟩ false (.t 92) (.t 98))) [1,2,3,4,5,6,7] (.mv (zs 104 (.app ⟨2,true,16,(.agg [(.s (.int .i64 0)),(.s (.int .i64 0))])⟩ false (.t 99) (.t 103))) [1,2,3,4,5,6,7,8,9,10,11,12] (.mv (zs 111 (.app ⟨2,true,16,(.agg [(.s (.int .i64 0)),(.s (.int .i64 0))])⟩ false (.t 104) (.t 110))) [1,2,3,4,5,6,7,8,9,10,11,12,13,14,15,16,17,18,19] (.rd (zs 112 (.nilc (.t 91))) 21 false (.rd (zs 113 (.shift 2 (.t 112))) 22 false (.mv (zn (.store 1 (.t 113) (.t 111))) [0,1,2,3,4,5,6,7,8,9,10,11,12,13,14,15,16,17,18,19,20,21,22] .done .stop))) .stop) .stop) .stop)))))))))))))))))))) (.seq (.sq [(zs 6 (.mv true (zi 0)))]) .ret))
def y24k9 (c:Nat→FuncId):LCode:=(.seq (.block 2 (.loop (zm false [0,3,6,1,104]) (y24k7 c))) (y24k8 c))
def y24k10 (c:Nat→FuncId):LCode:=(.seq (.sq [(zv 43 0),(zv 44 1),(zs 45 (.call (.f (c 0)) [(.t 43),(.t 44)]))]) (.seq (.sq [(zs 9 (.mv true (zi 0)))]) (y24k9 c)))
def y24k11 (c:Nat→FuncId):LCode:=(.seq (.seq (.sq [(zv 37 7),(zv 38 0),(zs 39 (.nilc (.t 38))),(zs 40 (.shift 0 (.t 39))),(zs 41 (.load1 false (.t 40))),(zs 42 (.bin .geq .sc (.t 37) (.t 41)))]) (.cond (.t 42) (.seq (.sq [(zs 6 (.mv true (zi 6)))]) .ret) .skip)) (y24k10 c))
def y24k12 (c:Nat→FuncId):LCode:=(.seq (.seq (.sq [(zs 8 (.mv true (zi 0)))]) (y24k5 c)) (y24k11 c))
def y24k13 (c:Nat→FuncId):LCode:=(.seq (.seq (.sq [(zv 10 2),(zv 11 0),(zs 12 (.nilc (.t 11))),(zs 13 (.shift 1 (.t 12))),(zs 14 (.load1 false (.t 13))),(zs 15 (.bin .leq .sc (.t 10) (.t 14)))]) (.cond (.t 15) (.seq (.sq [(zs 6 (.mv true (zi 10)))]) .ret) .skip)) (.seq (.sq [(zs 7 (.mv true (zi 0)))]) (y24k12 c)))
def Uzs (c:Nat→FuncId):=PLift.up (zc (zc (zc (@unfC _ _ (y24k1.eq_1 c)) (zc (@unfC _ _ (y24k2.eq_1 c)) (@unfC _ _ (y24k3.eq_1 c)))) (zc (@unfC _ _ (y24k4.eq_1 c)) (zc (@unfC _ _ (y24k5.eq_1 c)) (@unfC _ _ (y24k6.eq_1 c))))) (zc (zc (@unfC _ _ (y24k7.eq_1 c)) (zc (@unfC _ _ (y24k8.eq_1 c)) (@unfC _ _ (y24k9.eq_1 c)))) (zc (zc (@unfC _ _ (y24k10.eq_1 c)) (@unfC _ _ (y24k11.eq_1 c))) (zc (@unfC _ _ (y24k12.eq_1 c)) (@unfC _ _ (y24k13.eq_1 c))))))
def Czn (c:Nat→FuncId):LFn:=⟨114,[.t 6],(.seq (.sq [(zs 6 (.mv true (zi 0)))]) (y24k13 c))⟩
def y24l1:LCode:=(.sq [(zv 43 0),(zv 44 0),(zs 45 (.nilc (.t 44))),(zs 46 (.shift 2 (.t 45))),(zs 47 (.load1 false (.t 46))),(zs 48 (.slc (.sl 2) (.t 47) (some (zi 1)) none none)),(zs 49 (.nilc (.t 43))),(zs 50 (.shift 2 (.t 49))),(zn (.store 1 (.t 50) (.t 48)))])
def y24l2:LCode:=(.block 1 (.seq (.sq [(zs 33 (.mv true (.t 5))),(zv 34 0),(zs 35 (.nilc (.t 34))),(zs 36 (.shift 2 (.t 35))),(zs 37 (.load1 false (.t 36))),(zs 38 (.ixa (.sl 2) (.t 37) (zi 0))),(zs 39 (.shift 0 (.t 38))),(zs 40 (.load1 false (.t 39))),(zs 41 (.bsl ⟨1,false,8,(.s (.int .i64 0))⟩ 1 [(0,(.t 40))])),(zs 42 (.app ⟨1,false,8,(.s (.int .i64 0))⟩ false (.t 33) (.t 41))),(zs 5 (.mv true (.t 42)))]) y24l1))
def y24l3:LCode:=(.seq (.seq (.sq [(zv 16 0),(zs 17 (.nilc (.t 16))),(zs 18 (.shift 2 (.t 17))),(zs 19 (.load1 false (.t 18))),(zs 20 (.len .sl (.t 19))),(zs 21 (.bin .gtr .sc (.t 20) (zi 0))),(zv 22 21),(zt 23 22 (.mv false (.t 0))),(zt 24 22 (.nilc (.t 23))),(zt 25 22 (.shift 2 (.t 24))),(zt 26 22 (.load1 false (.t 25))),(zt 27 22 (.ixa (.sl 2) (.t 26) (zi 0))),(zt 28 22 (.shift 1 (.t 27))),(zt 29 22 (.load1 false (.t 28))),(zt 30 22 (.mv false (.t 1))),(zt 31 22 (.bin .leq .sc (.t 29) (.t 30))),(zs 32 (.pick (.t 22) (.t 31) zF))]) (.cond (.t 32) .skip (.exit 0))) y24l2)
def y24l4:LCode:=(.seq (.block 0 (.loop (zm false [0,2,3,1,46]) y24l3)) (.seq (.sq [(zs 51 (.mv true (.t 5))),(zs 4 (.mv true (.t 51)))]) .ret))
def y24l5:LCode:=(.seq (.sq [(zv 12 0),(zv 13 1),(zs 14 (.nilc (.t 12))),(zs 15 (.shift 1 (.t 14))),(zn (.store 1 (.t 15) (.t 13)))]) (.seq (.sq [(zs 5 (.mv true (.c .nilS)))]) y24l4))
def y24l6:LCode:=(.seq (.seq (.sq [(zv 6 1),(zv 7 0),(zs 8 (.nilc (.t 7))),(zs 9 (.shift 1 (.t 8))),(zs 10 (.load1 false (.t 9))),(zs 11 (.bin .lss .sc (.t 6) (.t 10)))]) (.cond (.t 11) (.seq (.sq [(zs 4 (.mv true (.c .nilS)))]) .ret) .skip)) y24l5)
def Uzo:=PLift.up (zc (zc (@unfC _ _ (y24l1.eq_1)) (zc (@unfC _ _ (y24l2.eq_1)) (@unfC _ _ (y24l3.eq_1)))) (zc (@unfC _ _ (y24l4.eq_1)) (zc (@unfC _ _ (y24l5.eq_1)) (@unfC _ _ (y24l6.eq_1)))))
def Czj:LFn:=⟨52,[.t 4],(.seq (.sq [(zs 4 (.mv true (.c .nilS)))]) y24l6)⟩
def y24m1:LCode:=(.cond (.t 9) (.seq (.sq [(zs 2 (.mv true (zi 0))),(zs 3 (.mv true zF))]) .ret) .skip)
def y24m2:LCode:=(.seq (.sq [(zv 10 0),(zs 11 (.nilc (.t 10))),(zs 12 (.shift 2 (.t 11))),(zs 13 (.load1 false (.t 12))),(zs 14 (.ixa (.sl 2) (.t 13) (zi 0))),(zs 15 (.shift 1 (.t 14))),(zs 16 (.load1 false (.t 15))),(zs 2 (.mv true (.t 16))),(zs 3 (.mv true zT))]) .ret)
def y24m3:LCode:=(.seq (.seq (.sq [(zv 4 0),(zs 5 (.nilc (.t 4))),(zs 6 (.shift 2 (.t 5))),(zs 7 (.load1 false (.t 6))),(zs 8 (.len .sl (.t 7))),(zs 9 (.bin .eql .sc (.t 8) (zi 0)))]) y24m1) y24m2)
def Uz2c:=PLift.up (zc (@unfC _ _ (y24m1.eq_1)) (zc (@unfC _ _ (y24m2.eq_1)) (@unfC _ _ (y24m3.eq_1))))
def Cz1b:LFn:=⟨17,[.t 2,.t 3],(.seq (.sq [(zs 2 (.mv true (zi 0))),(zs 3 (.mv true zF))]) y24m3)⟩
def y24n1:LCode:=(.seq (.sq [(zv 3 0),(zs 4 (.nilc (.t 3))),(zs 5 (.shift 2 (.t 4))),(zs 6 (.load1 false (.t 5))),(zs 7 (.len .sl (.t 6))),(zs 2 (.mv true (.t 7)))]) .ret)
def Uz2p:=PLift.up (@unfC _ _ (y24n1.eq_1))
def Cz1s:LFn:=⟨8,[.t 2],(.seq (.sq [(zs 2 (.mv true (zi 0)))]) y24n1)⟩
def y24o1 (c:Nat→FuncId):LCode:=(.seq (.sq [(zv 29 3),(zs 30 (.bin .eql .sc (.t 29) (zi 0))),(zv 31 30),(zt 32 31 (.mv false (.t 4))),(zt 33 31 (.bin .eql .sc (.t 32) (zi 0))),(zs 34 (.pick (.t 31) (.t 33) zF)),(zv 35 34),(zt 36 35 (.mv false (.t 5))),(zt 37 35 (.bin .eql .sc (.t 36) (zi 0))),(zs 38 (.pick (.t 35) (.t 37) zF)),(zv 39 38),(zt 40 39 (.mv false (.t 7))),(zs 41 (.pick (.t 39) (.t 40) zF)),(zv 42 41),(zt 43 42 (.mv false (.t 6))),(zt 44 42 (.bin .eql .sc (.t 43) (zi 4))),(zs 45 (.pick (.t 42) (.t 44) zF)),(zv 46 45),(zt 47 46 (.mv false (.t 1))),(zt 48 46 (.call (.f (c 3)) [(.t 47),(zi 5)])),(zt 49 46 (.bsl ⟨1,false,8,(.s (.int .i64 0))⟩ 3 [(0,(zi 3)),(1,(zi 1)),(2,(zi 2))])),(zt 50 46 (.call (.f (c 4)) [(.t 48),(.t 49)])),(zs 51 (.pick (.t 46) (.t 50) zF)),(zv 52 51),(zt 53 52 (.mv false (.t 1))),(zt 54 52 (.call (.f (c 5)) [(.t 53)])),(zt 55 52 (.bin .eql .sc (.t 54) (zi 0))),(zs 56 (.pick (.t 52) (.t 55) zF)),(zv 57 56),(zt 58 57 (.mv false (.t 1))),(zt 59 57 (.call (.f (c 6)) [(.t 58)])),(zt 60 57 (.bin .eql .sc (.t 59) (zi 5))),(zs 61 (.pick (.t 57) (.t 60) zF)),(zs 0 (.mv true (.t 61)))]) .ret)
def y24o2 (c:Nat→FuncId):LCode:=(.seq (.sq [(zv 25 1),(zs 26 (.call (.f (c 2)) [(.t 25)])),(zv 24 26),(zs 27 (.ext (.t 24) 0)),(zs 28 (.ext (.t 24) 1)),(zs 6 (.mv true (.t 27))),(zs 7 (.mv true (.t 28)))]) (y24o1 c))
def y24o3 (c:Nat→FuncId):LCode:=(.seq (.sq [(zv 18 1),(zs 19 (.call (.f (c 1)) [(.t 18),(zi 2),(zi 5)])),(zv 20 1),(zs 21 (.call (.f (c 1)) [(.t 20),(zi 1),(zi 5)])),(zv 22 1),(zs 23 (.call (.f (c 1)) [(.t 22),(zi 3),(zi 4)])),(zs 3 (.mv true (.t 19))),(zs 4 (.mv true (.t 21))),(zs 5 (.mv true (.t 23)))]) (y24o2 c))
def y24o4 (c:Nat→FuncId):LCode:=(.seq (.seq (.sq [(zv 12 2),(zs 13 (.bin .neq .sc (.t 12) (zi 0))),(zv 14 13),(zf 15 14 (.mv false (.t 1))),(zf 16 14 (.bin .eql (.ref 0) (.t 15) (.c .nilP))),(zs 17 (.pick (.t 14) zT (.t 16)))]) (.cond (.t 17) (.seq (.sq [(zs 0 (.mv true zF))]) .ret) .skip)) (y24o3 c))
def y24o5 (c:Nat→FuncId):LCode:=(.seq (.sq [(zs 9 (.call (.f (c 0)) [(zi 5)])),(zv 8 9),(zs 10 (.ext (.t 8) 0)),(zs 11 (.ext (.t 8) 1)),(zs 1 (.mv true (.t 10))),(zs 2 (.mv true (.t 11)))]) (y24o4 c))
def Uzz (c:Nat→FuncId):=PLift.up (zc (zc (@unfC _ _ (y24o1.eq_1 c)) (@unfC _ _ (y24o2.eq_1 c))) (zc (@unfC _ _ (y24o3.eq_1 c)) (zc (@unfC _ _ (y24o4.eq_1 c)) (@unfC _ _ (y24o5.eq_1 c)))))
def Czt (c:Nat→FuncId):LFn:=⟨62,[.t 0],(.seq (.sq [(zs 0 (.mv true zF))]) (y24o5 c))⟩
def y24r1 (c:Nat→FuncId):LCode:=(.seq (.sq [(zv 27 6),(zs 28 (.bin .eql .sc (.t 27) (zi 1))),(zv 29 28),(zt 30 29 (.mv false (.t 5))),(zt 31 29 (.bin .eql (.ref 0) (.t 30) (.c .nilP))),(zs 32 (.pick (.t 29) (.t 31) zF)),(zs 4 (.mv true (.t 32)))]) .ret)
def y24r2 (c:Nat→FuncId):LCode:=(.seq (.sq [(zv 40 6),(zs 41 (.bin .eql .sc (.t 40) (zi 0))),(zs 4 (.mv true (.t 41)))]) .ret)
def y24r3 (c:Nat→FuncId):LCode:=(.tree (.rd (zv 73 5) 0 false (.rd (zv 74 1) 1 false (.rd (zv 75 8) 2 false (.rd (zs 76 (.ixa (.sl 3) (.t 74) (.t 75))) 3 false (.rd (zs 77 (.shift 1 (.t 76))) 4 false (.rd (zs 78 (.load1 false (.t 77))) 5 false (.rd (zv 79 1) 6 false (.rd (zv 80 8) 7 false (.rd (zs 81 (.ixa (.sl 3) (.t 79) (.t 80))) 8 false (.rd (zs 82 (.shift 2 (.t 81))) 9 false (.rd (zs 83 (.load1 false (.t 82))) 10 false (.rd (zv 85 7) 12 true (.rd (zv 86 1) 13 true (.rd (zv 87 8) 14 true (.rd (zs 88 (.ixa (.sl 3) (.t 86) (.t 87))) 15 true (.rd (zs 89 (.shift 1 (.t 88))) 16 true (.rd (zs 90 (.load1 false (.t 89))) 17 true (.rd (zv 91 1) 18 true (.rd (zv 92 8) 19 true (.rd (zs 93 (.ixa (.sl 3) (.t 91) (.t 92))) 20 true (.rd (zs 94 (.shift 2 (.t 93))) 21 true (.rd (zs 95 (.load1 false (.t 94))) 22 true (.mv (zs 84 (.call (.f (c 2)) [(.t 73),(.t 78),(.t 83)])) [0,1,2,3,4,5,6,7,8,9,10] (.mv (zs 96 (.call (.f (c 3)) [(.t 85),(.t 90),(.t 95)])) [0,1,2,3,4,5,6,7,8,9,10,11,12,13,14,15,16,17,18,19,20,21,22] (.rd (zs 97 (.bin .eql .sc (.t 84) (.t 96))) 24 false (.mv (zs 9 (.mv true (.t 97))) [0,1,2,3,4,5,6,7,8,9,10,11,12,13,14,15,16,17,18,19,20,21,22,23,24] .done .stop)) .stop) .stop))))))))))))))))))))))))
def y24r4 (c:Nat→FuncId):LCode:=(.tree (.rd (zv 100 5) 0 false (.rd (zv 101 1) 1 false (.rd (zv 102 8) 2 false (.rd (zs 103 (.ixa (.sl 3) (.t 101) (.t 102))) 3 false (.rd (zs 104 (.shift 1 (.t 103))) 4 false (.rd (zs 105 (.load1 false (.t 104))) 5 false (.rd (zv 107 7) 7 true (.rd (zv 108 1) 8 true (.rd (zv 109 8) 9 true (.rd (zs 110 (.ixa (.sl 3) (.t 108) (.t 109))) 10 true (.rd (zs 111 (.shift 1 (.t 110))) 11 true (.rd (zs 112 (.load1 false (.t 111))) 12 true (.mv (zs 106 (.call (.f (c 4)) [(.t 100),(.t 105)])) [0,1,2,3,4,5] (.mv (zs 113 (.call (.f (c 5)) [(.t 107),(.t 112)])) [0,1,2,3,4,5,6,7,8,9,10,11,12] (.rd (zs 114 (.bin .eql .bl (.t 106) (.t 113))) 14 false (.mv (zs 9 (.mv true (.t 114))) [0,1,2,3,4,5,6,7,8,9,10,11,12,13,14] .done .stop)) .stop) .stop))))))))))))))
def y24r5 (c:Nat→FuncId):LCode:=(.tree (.rd (zv 56 5) 0 false (.rd (zv 57 1) 1 false (.rd (zv 58 8) 2 false (.rd (zs 59 (.ixa (.sl 3) (.t 57) (.t 58))) 3 false (.rd (zs 60 (.shift 2 (.t 59))) 4 false (.rd (zs 61 (.load1 false (.t 60))) 5 false (.rd (zv 63 7) 7 true (.rd (zv 64 1) 8 true (.rd (zv 65 8) 9 true (.rd (zs 66 (.ixa (.sl 3) (.t 64) (.t 65))) 10 true (.rd (zs 67 (.shift 2 (.t 66))) 11 true (.rd (zs 68 (.load1 false (.t 67))) 12 true (.mv (zs 62 (.call (.f (c 6)) [(.t 56),(.t 61)])) [0,1,2,3,4,5] (.mv (zs 69 (.call (.f (c 7)) [(.t 63),(.t 68)])) [0,1,2,3,4,5,6,7,8,9,10,11,12] (.mv (zs 70 (.call (.f (c 8)) [(.t 62),(.t 69)])) [0,1,2,3,4,5,6,7,8,9,10,11,12,13] (.mv (zs 9 (.mv true (.t 70))) [0,1,2,3,4,5,6,7,8,9,10,11,12,13,14] .done .stop) .stop) .stop) .stop))))))))))))))
def y24r6 (c:Nat→FuncId):LCode:=(.seq (.sq [(zs 99 (.bin .eql .sc (.t 55) (zi 1))),(zs 98 (.mv true (.t 99)))]) (.cond (.t 98) (y24r4 c) (y24r5 c)))
def y24r7 (c:Nat→FuncId):LCode:=(.block 2 (.seq (.sq [(zs 72 (.bin .eql .sc (.t 55) (zi 0))),(zs 71 (.mv true (.t 72)))]) (.cond (.t 71) (y24r3 c) (y24r6 c))))
def y24r8 (c:Nat→FuncId):LCode:=(.seq (.tree (.rd (zv 125 9) 0 false (.rd (zs 126 (.un .not (.t 125))) 1 false (.rd (zv 127 126) 2 false (.rd (zf 128 127 (.mv false (.t 10))) 3 false (.rd (zf 129 127 (.mv false (.t 12))) 4 false (.rd (zf 130 127 (.bin .neq .sc (.t 128) (.t 129))) 5 false (.rd (zs 131 (.pick (.t 127) zT (.t 130))) 6 false (.rd (zv 132 131) 7 false (.rd (zf 133 132 (.mv false (.t 11))) 8 false (.rd (zf 134 132 (.mv false (.t 13))) 9 false (.rd (zf 135 132 (.bin .neq .bl (.t 133) (.t 134))) 10 false (.rd (zs 136 (.pick (.t 132) zT (.t 135))) 11 false (.rd (zv 137 136) 12 false (.rd (zf 138 137 (.mv false (.t 5))) 13 false (.rd (zf 140 137 (.mv false (.t 7))) 15 true (.mv (zf 139 137 (.call (.f (c 11)) [(.t 138)])) [0,1,2,3,4,5,6,7,8,9,10,11,12,13] (.mv (zf 141 137 (.call (.f (c 12)) [(.t 140)])) [0,1,2,3,4,5,6,7,8,9,10,11,12,13,14,15] (.rd (zf 142 137 (.bin .neq .sc (.t 139) (.t 141))) 17 false (.rd (zs 143 (.pick (.t 137) zT (.t 142))) 18 false (.rd (zv 144 143) 19 false (.rd (zf 145 144 (.mv false (.t 5))) 20 false (.rd (zf 147 144 (.mv false (.t 7))) 22 true (.rd (zf 148 144 (.nilc (.t 147))) 23 true (.rd (zf 149 144 (.shift 1 (.t 148))) 24 true (.rd (zf 150 144 (.load1 false (.t 149))) 25 true (.mv (zf 146 144 (.call (.f (c 13)) [(.t 145)])) [0,1,2,3,4,5,6,7,8,9,10,11,12,13,14,15,16,17,18,19,20] (.rd (zf 151 144 (.bin .neq .sc (.t 146) (.t 150))) 26 false (.rd (zs 152 (.pick (.t 144) zT (.t 151))) 27 false .done)) .stop))))))))) .stop) .stop))))))))))))))))) (.cond (.t 152) (.seq (.sq [(zs 4 (.mv true zF))]) .ret) .skip))
def y24r9 (c:Nat→FuncId):LCode:=(.seq (.sq [(zv 121 7),(zs 122 (.call (.f (c 10)) [(.t 121)])),(zv 120 122),(zs 123 (.ext (.t 120) 0)),(zs 124 (.ext (.t 120) 1)),(zs 12 (.mv true (.t 123))),(zs 13 (.mv true (.t 124)))]) (y24r8 c))
def y24r10 (c:Nat→FuncId):LCode:=(.seq (.sq [(zv 116 5),(zs 117 (.call (.f (c 9)) [(.t 116)])),(zv 115 117),(zs 118 (.ext (.t 115) 0)),(zs 119 (.ext (.t 115) 1)),(zs 10 (.mv true (.t 118))),(zs 11 (.mv true (.t 119)))]) (y24r9 c))
def y24r11 (c:Nat→FuncId):LCode:=(.seq (.seq (.sq [(zv 51 1),(zv 52 8),(zs 53 (.ixa (.sl 3) (.t 51) (.t 52))),(zs 54 (.shift 0 (.t 53))),(zs 55 (.load1 false (.t 54)))]) (y24r7 c)) (y24r10 c))
def y24r12 (c:Nat→FuncId):LCode:=(.sq [(zv 49 8),(zs 50 (.bin .add .sc (.t 49) (zi 1))),(zs 8 (.mv true (.t 50)))])
def y24r13 (c:Nat→FuncId):LCode:=(.seq (.block 1 (.seq (.sq [(zs 9 (.mv true zT))]) (y24r11 c))) (y24r12 c))
def y24r14 (c:Nat→FuncId):LCode:=(.seq (.seq (.sq [(zv 45 8),(zv 46 1),(zs 47 (.len .sl (.t 46))),(zs 48 (.bin .lss .sc (.t 45) (.t 47)))]) (.cond (.t 48) .skip (.exit 0))) (y24r13 c))
def y24r15 (c:Nat→FuncId):LCode:=(.block 0 (.loop (zm false [1,1,3,1,1,2,144]) (y24r14 c)))
def y24r16 (c:Nat→FuncId):LCode:=(.seq (.seq (.sq [(zs 8 (.mv true (zi 0)))]) (y24r15 c)) (.seq (.sq [(zs 4 (.mv true zT))]) .ret))
def y24r17 (c:Nat→FuncId):LCode:=(.seq (.sq [(zv 42 0),(zs 43 (.build [(.s (.int .i64 0)),(.s (.int .i64 0)),(.s .nilS)] [(0,1,(.t 42))])),(zs 44 (.box false false (.t 43))),(zs 7 (.mv true (.t 44)))]) (y24r16 c))
def y24r18 (c:Nat→FuncId):LCode:=(.seq (.seq (.sq [(zv 33 6),(zs 34 (.bin .neq .sc (.t 33) (zi 0))),(zv 35 34),(zf 36 35 (.mv false (.t 1))),(zf 37 35 (.len .sl (.t 36))),(zf 38 35 (.bin .gtr .sc (.t 37) (zi 100))),(zs 39 (.pick (.t 35) zT (.t 38)))]) (.cond (.t 39) (y24r2 c) .skip)) (y24r17 c))
def y24r19 (c:Nat→FuncId):LCode:=(.seq (.seq (.sq [(zv 21 0),(zs 22 (.bin .lss .sc (.t 21) (zi 1))),(zv 23 22),(zf 24 23 (.mv false (.t 0))),(zf 25 23 (.bin .gtr .sc (.t 24) (zi 1000))),(zs 26 (.pick (.t 23) zT (.t 25)))]) (.cond (.t 26) (y24r1 c) .skip)) (y24r18 c))
def y24r20 (c:Nat→FuncId):LCode:=(.seq (.sq [(zv 17 0),(zs 18 (.call (.f (c 1)) [(.t 17)])),(zv 16 18),(zs 19 (.ext (.t 16) 0)),(zs 20 (.ext (.t 16) 1)),(zs 5 (.mv true (.t 19))),(zs 6 (.mv true (.t 20)))]) (y24r19 c))
def y24r21 (c:Nat→FuncId):LCode:=(.seq (.seq (.sq [(zs 14 (.call (.f (c 0)) [])),(zs 15 (.un .not (.t 14)))]) (.cond (.t 15) (.seq (.sq [(zs 4 (.mv true zF))]) .ret) .skip)) (y24r20 c))
def Uz5 (c:Nat→FuncId):=PLift.up (zc (zc (zc (zc (@unfC _ _ (y24r1.eq_1 c)) (@unfC _ _ (y24r2.eq_1 c))) (zc (@unfC _ _ (y24r3.eq_1 c)) (zc (@unfC _ _ (y24r4.eq_1 c)) (@unfC _ _ (y24r5.eq_1 c))))) (zc (zc (@unfC _ _ (y24r6.eq_1 c)) (@unfC _ _ (y24r7.eq_1 c))) (zc (@unfC _ _ (y24r8.eq_1 c)) (zc (@unfC _ _ (y24r9.eq_1 c)) (@unfC _ _ (y24r10.eq_1 c)))))) (zc (zc (zc (@unfC _ _ (y24r11.eq_1 c)) (@unfC _ _ (y24r12.eq_1 c))) (zc (@unfC _ _ (y24r13.eq_1 c)) (zc (@unfC _ _ (y24r14.eq_1 c)) (@unfC _ _ (y24r15.eq_1 c))))) (zc (zc (@unfC _ _ (y24r16.eq_1 c)) (zc (@unfC _ _ (y24r17.eq_1 c)) (@unfC _ _ (y24r18.eq_1 c)))) (zc (@unfC _ _ (y24r19.eq_1 c)) (zc (@unfC _ _ (y24r20.eq_1 c)) (@unfC _ _ (y24r21.eq_1 c)))))))
def Cz2 (c:Nat→FuncId):LFn:=⟨153,[.t 4],(.seq (.sq [(zs 4 (.mv true zF))]) (y24r21 c))⟩
end Go.AM
namespace Go.AM
open Go
set_option maxRecDepth 20000
def y10a1 (c:Nat→FuncId):LCode:=(.sq [(zs 5 (.mv true (.t 0))),(zv 6 2),(zv 7 2),(zs 8 (.conv (.int .u64) (.t 7))),(zs 9 (.call (.f (c 0)) [(.t 8)])),(zs 10 (.call (.f (c 1)) [(.t 5),(zi 0),(.t 6),(.t 9)]))])
def Uz2b (c:Nat→FuncId):=PLift.up (@unfC _ _ (y10a1.eq_1 c))
def Cz2h (c:Nat→FuncId):LFn:=⟨11,[],(.seq (.sq [(zv 3 0),(zs 4 (.len .sl (.t 3))),(zs 2 (.mv true (.t 4)))]) (y10a1 c))⟩
def y10i1:LCode:=(.sq [(zv 15 5),(zs 16 (.bin .add .sc (.t 15) (zi 1))),(zs 5 (.mv true (.t 16)))])
def y10i2:LCode:=(.seq (.block 1 (.seq (.tree (.rd (zv 17 0) 0 false (.rd (zv 18 5) 1 false (.rd (zs 19 (.ixa (.sl 1) (.t 17) (.t 18))) 2 false (.rd (zs 20 (.load1 false (.t 19))) 3 false (.rd (zv 21 1) 4 false (.rd (zv 22 5) 5 false (.rd (zs 23 (.ixa (.sl 1) (.t 21) (.t 22))) 6 false (.rd (zs 24 (.load1 false (.t 23))) 7 false (.rd (zs 25 (.bin .neq .sc (.t 20) (.t 24))) 8 false .done)))))))))) (.cond (.t 25) (.seq (.sq [(zs 4 (.mv true zF))]) .ret) .skip))) y10i1)
def y10i3:LCode:=(.seq (.seq (.sq [(zv 11 5),(zv 12 0),(zs 13 (.len .sl (.t 12))),(zs 14 (.bin .lss .sc (.t 11) (.t 13)))]) (.cond (.t 14) .skip (.exit 0))) y10i2)
def y10i4:LCode:=(.block 0 (.loop (zm false [0,2,3,1,20]) y10i3))
def y10i5:LCode:=(.seq (.seq (.sq [(zs 5 (.mv true (zi 0)))]) y10i4) (.seq (.sq [(zs 4 (.mv true zT))]) .ret))
def y10i6:LCode:=(.seq (.seq (.sq [(zv 6 0),(zs 7 (.len .sl (.t 6))),(zv 8 1),(zs 9 (.len .sl (.t 8))),(zs 10 (.bin .neq .sc (.t 7) (.t 9)))]) (.cond (.t 10) (.seq (.sq [(zs 4 (.mv true zF))]) .ret) .skip)) y10i5)
def Uz1o:=PLift.up (zc (zc (@unfC _ _ (y10i1.eq_1)) (zc (@unfC _ _ (y10i2.eq_1)) (@unfC _ _ (y10i3.eq_1)))) (zc (@unfC _ _ (y10i4.eq_1)) (zc (@unfC _ _ (y10i5.eq_1)) (@unfC _ _ (y10i6.eq_1)))))
def Cz18:LFn:=⟨26,[.t 4],(.seq (.sq [(zs 4 (.mv true zF))]) y10i6)⟩
end Go.AM
namespace Go.AM
open Go
open AV renaming undef → uu
set_option maxRecDepth 20000
def PdqN (C:CallW) (f:FuncId):Prop:=∀S H (K:AV→St→Prop),K (.tup []) ⟨S,H⟩→C (.fn f) [.s .nilS,.s (.int .i64 (0:Nat)),.s (.int .i64 (0:Nat)),.s (.int .i64 (0:Nat))] ⟨S,H⟩ K
def SrtN (C:CallW) (f:FuncId):Prop:=∀S H (K:AV→St→Prop),K (.tup []) ⟨S,H⟩→C (.fn f) [.s .nilS,.s (.int .i64 (0:Nat)),.s (.int .i64 (0:Nat))] ⟨S,H⟩ K
def OneN (C:CallW) (f:FuncId) (r:AV):Prop:=∀S H (K:AV→St→Prop),K r ⟨S,H⟩→C (.fn f) [.s .nilS] ⟨S,H⟩ K
set_option maxHeartbeats 4000000 in
theorem insertionSort_nil {C:CallW} (hC:LeC C C) (P:Program) {c:Nat→FuncId}:∀S H (K:AV→St→Prop),K (.tup []) ⟨S,H⟩→runL C P (Czv c) [.s .nilS,.s (.int .i64 (0:Nat)),.s (.int .i64 (0:Nat))] ⟨S,H⟩ K:=by
  intro S H K hK
  have hw0:IntKind.i64.wrap (((0:Nat):Int) + 1)=1:=rfl
  simp only [Czv,A_,simprocAttr,ne_eq,(Uzl _).1,hw0]
  refine loop_rule hC (α:=Unit) (fun x=>0) (fun x=>[.s .nilS,.s (.int .i64 (0:Nat)),.s (.int .i64 (0:Nat)),uu,uu,uu,.s (.int .i64 1),uu,uu,uu,uu,uu,uu,uu,uu,uu,uu,uu,uu,uu,uu,uu,uu,uu,uu,uu,uu,uu,uu,uu,uu,uu,uu,uu,uu,uu,uu,uu,uu,uu,uu,uu,uu,uu,uu,uu,uu,uu,uu]) (fun x=>S) (fun _=>H) (fun x=>True) () trivial (by simp [keep,zm]) (by rw [List.take_of_length_le (Nat.le_refl _)]) rfl (fun x _=>by simp [AV.under,AV.under.go]) ?_
  rintro x hx ih
  have hlt:((1:Int) < ((0:Nat):Int))=False:=eq_false (by omega)
  have hlt2:((1:Int) < 0)=False:=eq_false (by omega)
  simp only [Czv,A_,simprocAttr,ne_eq,(Uzl _).1,hlt,hlt2]
  exact hK
set_option maxHeartbeats 4000000 in
theorem pdqsort_nil {C:CallW} (hC:LeC C C) (P:Program) {c:Nat→FuncId} (h0:SrtN C (c 0)):∀S H (K:AV→St→Prop),K (.tup []) ⟨S,H⟩→runL C P (Cz10 c) [.s .nilS,.s (.int .i64 (0:Nat)),.s (.int .i64 (0:Nat)),.s (.int .i64 (0:Nat))] ⟨S,H⟩ K:=by
  intro S H K hK
  simp only [Cz10,A_,simprocAttr,ne_eq,(Uz1x _).1]
  refine loop_rule hC (α:=Unit) (fun x=>0) (fun x=>[.s .nilS,.s (.int .i64 (0:Nat)),.s (.int .i64 (0:Nat)),.s (.int .i64 (0:Nat)),uu,uu,uu,uu,.s (.bool true),.s (.bool true),uu,uu,uu,uu,uu,uu,uu,uu,uu,uu,uu,uu,uu,uu,uu,uu,uu,uu,uu,uu,uu,uu,uu,uu,uu,uu,uu,uu,uu,uu,uu,uu,uu,uu,uu,uu,uu,uu,uu,uu,uu,uu,uu,uu,uu,uu,uu,uu,uu,uu,uu,uu,uu,uu,uu,uu,uu,uu,uu,uu,uu,uu,uu,uu,uu,uu,uu,uu,uu,uu,uu,uu,uu,uu,uu,uu,uu,uu,uu,uu,uu,uu,uu,uu,uu,uu,uu,uu,uu,uu,uu,uu,uu,uu,uu,uu,uu,uu,uu,uu,uu,uu,uu,uu,uu,uu,uu,uu,uu,uu,uu,uu,uu,uu,uu,uu,uu,uu,uu,uu,uu,uu,uu,uu]) (fun x=>S) (fun _=>H) (fun x=>True) () trivial (by simp [keep,zm]) (by rw [List.take_of_length_le (Nat.le_refl _)]) rfl (fun x _=>by simp [AV.under,AV.under.go]) ?_
  rintro x hx ih
  have hw:IntKind.i64.wrap (((0:Nat):Int) - ((0:Nat):Int))=0:=rfl
  have hlt:((0:Int)≤12)=True:=eq_true (by omega)
  simp only [Cz10,A_,simprocAttr,ne_eq,(Uz1x _).1,hw,hlt]
  refine h0 _ _ _ ?_
  simp only [Cz10,A_,simprocAttr,ne_eq,(Uz1x _).1]
  exact hK
def SortIS (C:CallW) (f:FuncId):Prop:=∀(n:Nat) (d:Array Int) (S:List (List AV)) (H:List HObj) (K:AV→St→Prop),S[n]? = some (flat iA d)→d.size≤2305843009213693952→(∀R,Sort.PermIn 0 d.size d R→Sort.SortedIn ltI 0 d.size R→K (.tup []) ⟨S.set n (flat iA R),H⟩)→C (.fn f) [.row (.stk n) 0 d.size d.size] ⟨S,H⟩ K
theorem Sort_int_spec {C:CallW} (P:Program) {c:Nat→FuncId} (h0:LenS C (c 0)) (h1:∀m,PdqS C (c 1) m):∀(n:Nat) (d:Array Int) (S:List (List AV)) (H:List HObj) (K:AV→St→Prop),S[n]? = some (flat iA d)→d.size≤2305843009213693952→(∀R,Sort.PermIn 0 d.size d R→Sort.SortedIn ltI 0 d.size R→K (.tup []) ⟨S.set n (flat iA R),H⟩)→runL C P (Cz2h c) [.row (.stk n) 0 d.size d.size] ⟨S,H⟩ K:=by
  intro n d S H K hS hd hK
  have hc:IntKind.u64.wrap (d.size:Int)=(d.size:Int):=wu64 (by omega)
  simp only [Cz2h,A_,simprocAttr,ne_eq,(Uz2b _).1,convL,hc]
  refine h0 d.size (by omega) _ _ _ ?_
  have hb:=bitsLen_le (x:=d.size) (k:=62) (by omega)
  simp only [A_,simprocAttr,ne_eq,(Uz2b _).1]
  refine h1 (d.size + 1) n d 0 d.size (Sort.bitsLen d.size) _ _ _ hS (Nat.zero_le _) (Nat.le_refl _) hd (by omega) (by omega) (.inl rfl) fun R h2 h3 => ?_
  simp only [A_,simprocAttr,ne_eq,(Uz2b _).1]
  exact hK R h2 h3
theorem Sort_int_nil {C:CallW} (P:Program) {c:Nat→FuncId} (h0:LenS C (c 0)) (h1:PdqN C (c 1)):∀S H (K:AV→St→Prop),K (.tup []) ⟨S,H⟩→runL C P (Cz2h c) [.s .nilS] ⟨S,H⟩ K:=by
  intro S H K hK
  have hc:IntKind.u64.wrap (0:Int)=((0:Nat):Int):=rfl
  simp only [Cz2h,A_,simprocAttr,ne_eq,(Uz2b _).1,convL,hc]
  refine h0 0 (by omega) _ _ _ ?_
  simp only [A_,simprocAttr,ne_eq,(Uz2b _).1]
  refine h1 _ _ _ ?_
  simp only [A_,simprocAttr,ne_eq,(Uz2b _).1]
  exact hK
theorem take_at {d:Array Int} {m:Nat} (h:m < d.size):d.toList.take (m + 1)=d.toList.take m ++ [d[m]!]:=by
  have h2:m < d.toList.length:=by simpa using h
  rw [List.take_succ_eq_append_getElem h2,get_bang h]
theorem flat_iA (d:Array Int):flat iA d=d.toList.map iA:=by
  unfold flat
  generalize d.toList=l
  induction l with
  | nil=>rfl
  | cons x l ih=>rw [List.flatMap_cons,ih]; rfl
theorem freeze_i {e:ET} {S:List (List AV)} {H:List HObj} {n k N:Nat} {d:Array Int} (h1:e.c=1) (h2:e.ag=false) (hS:S[n]? = some (flat iA d)) (hk:k≤d.size):freezeL e (.row (.stk n) 0 k N) ⟨S,H⟩=some (.list .sh 1 ((d.toList.take k).map iA),⟨S.set n [],H⟩):=by
  have hl:0 + k≤(flat iA d).length:=by rw [flat_length iA_EK]; omega
  have hlook:∀l:List Int,(l.map iA).map AV.look=l.map iA:=by
    intro l; induction l with
    | nil=>rfl
    | cons x l ih=>rw [List.map_cons,List.map_cons,ih]; rfl
  have hcell:∀l:List Int,(l.map iA).all AV.isCell=true:=by
    intro l; induction l with
    | nil=>rfl
    | cons x l ih=>rw [List.map_cons,List.all_cons,ih]; rfl
  have hu:∀l:List Int,underL 0 (l.map iA)=true:=by
    intro l; induction l with
    | nil=>rfl
    | cons x l ih=>exact ih
  have hgr:∀l:List Int,groupL e l.length (l.map iA)=l.map iA:=by
    intro l; induction l with
    | nil=>rfl
    | cons x l ih=>rw [List.length_cons,groupL,h1]; simp only [List.map_cons,List.take_succ_cons,List.take_zero,List.drop_succ_cons,List.drop_zero,ih]; simp [packL,h2,iA]
  have hlen:(d.toList.take k).length=k:=by simp; omega
  have hg2:=hgr (d.toList.take k)
  rw [hlen] at hg2
  unfold freezeL
  simp only [h1,Nat.mul_one,readCells,boxOf_stk,hS,Option.bind_some]
  rw [if_pos ⟨hl,.inr (by rw [List.drop_zero,flat_iA,←List.map_take,hlook]; exact hcell _)⟩]
  simp only [Option.bind_some,List.drop_zero,flat_iA,←List.map_take,hlook,hu,hg2]
  simp
end Go.AM
namespace Go.AM
open Go
set_option maxRecDepth 20000
def Cz1p:LFn:=⟨0,[],(.sq [(zs 5 (.mv true (.t 7)))])⟩
def Cz1q:LFn:=⟨0,[],(.block 1 (.sq [(zs 8 (.load1 true (.t 2))),(zv 9 5),(zs 10 (.bsl ⟨1,false,8,(.s (.int .i64 0))⟩ 1 [(0,(.t 9))])),(zs 11 (.app ⟨1,false,8,(.s (.int .i64 0))⟩ false (.t 8) (.t 10))),(zn (.stu (.t 2) (.t 11)))]))⟩
def y11i1 (c:Nat→FuncId) (as1 bd1:Code):LCode:=(.seq (.seq (.sq [(zv 6 1)]) (.block 0 (.rfun (.t 6) (c 0) #[7] as1 bd1))) (.seq (.sq [(zs 12 (.load1 true (.t 2))),(zs 4 (.mv true (.t 12)))]) .ret))
def Uz2g (c:Nat→FuncId) (as1 bd1:Code):=PLift.up (@unfC _ _ (y11i1.eq_1 c as1 bd1))
def Cz22 (c:Nat→FuncId) (as1 bd1:Code):LFn:=⟨13,[.t 4],(.seq (.sq [(zs 2 (.box true true (.t 0))),(zs 4 (.mv true (.c .nilS)))]) (y11i1 c as1 bd1))⟩
def y11j1 (c:Nat→FuncId):LCode:=(.seq (.sq [(zv 3 0),(zs 4 (.call (.f (c 0)) [(.c .nilS),(.t 3)])),(zs 2 (.mv true (.t 4)))]) .ret)
def Uz2z (c:Nat→FuncId):=PLift.up (@unfC _ _ (y11j1.eq_1 c))
def Cz2e (c:Nat→FuncId):LFn:=⟨5,[.t 2],(.seq (.sq [(zs 2 (.mv true (.c .nilS)))]) (y11j1 c))⟩
def y11k1 (c:Nat→FuncId):LCode:=(.seq (.sq [(zs 6 (.thaw 3)),(zs 7 (.call (.f (c 1)) [(.t 6)]))]) (.seq (.sq [(zs 8 (.frz ⟨1,false,8,(.s (.int .i64 0))⟩ (.t 3))),(zs 2 (.mv true (.t 8)))]) .ret))
def y11k2 (c:Nat→FuncId):LCode:=(.seq (.sq [(zv 4 0),(zs 5 (.call (.f (c 0)) [(.t 4)])),(zs 3 (.mv true (.t 5)))]) (y11k1 c))
def Uz1c (c:Nat→FuncId):=PLift.up (zc (@unfC _ _ (y11k1.eq_1 c)) (@unfC _ _ (y11k2.eq_1 c)))
def Cz15 (c:Nat→FuncId):LFn:=⟨9,[.t 2],(.seq (.sq [(zs 2 (.mv true (.c .nilS)))]) (y11k2 c))⟩
end Go.AM
namespace Go.AM
open Go
set_option maxRecDepth 20000
def goodK (k:Key):Bool:=decide (textOf k≠[]) && decide (padK (textOf k)=k)
def goodL:Bool→List UInt8→Bool
  | _,[]=>true
  | e,x :: l=>if x=0 then goodL true l else if e then false else goodL false l
def goodR (k:Key):Bool:=goodL false k.b && decide (k.b[0]'(by rw [k.h]; omega)≠0)
theorem wrap_succ {i:Nat} (h:i < 4611686018427387904):IntKind.i64.wrap ((i:Int) + 1)=((i + 1:Nat):Int):=by rw [wrap_i64 (by omega) (by omega)]; rfl
end Go.AM
namespace Go.AM
open Go
end Go.AM
namespace Go.AM
open Go
set_option maxRecDepth 20000
end Go.AM
namespace Go.AM
open Go
set_option maxRecDepth 20000
end Go.AM
namespace Go.AM
open Go
set_option maxRecDepth 20000
def cmpK (a b:Key):Int:=Lib.compareBytes a.b b.b
def withinK (k a b:Key):Bool:=decide (0≤cmpK k a) && (decide (b=key0) || decide (cmpK k b < 0))
end Go.AM
namespace Go.AM
open Go
set_option maxRecDepth 20000
def cntK (k:Key):List Key→Nat
  | []=>0
  | p :: l=>(if cmpK p k≤0 then 1 else 0) + cntK k l
end Go.AM
namespace Go.AM
open Go
set_option maxRecDepth 20000
end Go.AM
namespace Go.AM
open Go
set_option maxRecDepth 20000
end Go.AM
namespace Go.AM
open Go
set_option maxRecDepth 20000
def aboveK (l:List Key) (a:Key) (i:Nat):Bool:=match l[i]? with
  | some p=>decide (0 < cmpK p a)
  | none=>true
def belowK (l:List Key) (b:Key) (i:Nat):Bool:=decide (i=0) || decide (b=key0) || (match l[i - 1]? with
  | some p=>decide (cmpK p b < 0)
  | none=>true)
def covUp (l:List Key) (a b:Key) (n:Nat):List Nat:=(List.range n).filter fun i=>aboveK l a i && belowK l b i
def coverK (l:List Key) (a b:Key):List Nat:=if b≠key0∧cmpK b a≤0 then [] else covUp l a b (l.length + 1)
end Go.AM
namespace Go.AM
open Go
set_option maxRecDepth 20000
def Steps (c:List Nat):Prop:=∀i,0 < i→(h:i < c.length)→c[i]=c[i - 1] + 1
structure WholeP (pts:List Key) (a b fr to:Key):Prop where
  good:∀k,goodR k=true→goodK k=true
  lt:cntK a pts≤pts.length
  mono:cmpK a b≤0→cntK a pts≤cntK b pts
  cons:Steps (coverK pts fr to)
  small:∀x∈coverK pts fr to,x≤pts.length
  mem:withinK a fr to=true→cntK a pts∈coverK pts fr to
end Go.AM
namespace Go.AM
open Go
end Go.AM
namespace Go.AM
open Go
set_option maxRecDepth 20000
end Go.AM
namespace Go.AM
open Go
set_option maxRecDepth 20000
end Go.AM
namespace Go.AM
open Go
set_option maxRecDepth 20000
end Go.AM
namespace Go.AM
open Go
set_option maxRecDepth 20000
end Go.AM
namespace Go.AM
open Go
set_option maxRecDepth 20000
end Go.AM
namespace Go.AM
open Go
set_option maxRecDepth 20000
def restLe (a b:Rd):Prop:=∀q,b=some q→∃p,a=some p∧q.length≤p.length
theorem restLe.refl (a:Rd):restLe a a:=fun q h=>⟨q,h,Nat.le_refl _⟩
theorem restLe.trans {a b c:Rd} (h:restLe a b) (h2:restLe b c):restLe a c:=fun q hq=>by
  obtain ⟨p,hp,hl⟩:=h2 q hq
  obtain ⟨p2,hp2,hl2⟩:=h p hp
  exact ⟨p2,hp2,by omega⟩
end Go.AM
namespace Go.AM
open Go
set_option maxRecDepth 20000
end Go.AM
namespace Go.AM
open Go
set_option maxRecDepth 20000
end Go.AM
namespace Go.AM
open Go
structure Rec where
  kind:Int
  id:Int
  snap:Stp
  stamp:Stp
  writes:List Wr
  yes:Bool
  parts:List Int
  deriving DecidableEq
def pI (n:Int):AV := .s (.int .i64 n)
def lstN (l:List Int):AV := .list .sh 1 (l.map pI)
end Go.AM
namespace Go.AM
open Go
set_option maxRecDepth 20000
end Go.AM
namespace Go.AM
open Go
set_option maxRecDepth 20000
end Go.AM
namespace Go.AM
open Go
set_option maxRecDepth 20000
end Go.AM
namespace Go.AM
open Go
set_option maxRecDepth 20000
end Go.AM
namespace Go.AM
open Go
set_option maxRecDepth 20000
structure Ent where
  id:Int
  snap:Stp
  stamp:Stp
  writes:List Wr
def enc (e:Ent):List AV:=[.s (.int .i64 e.id),.s (.int .i64 e.snap.t),u8 e.snap.n,.s (.int .i64 e.stamp.t),u8 e.stamp.n,.list .sh 18 (e.writes.map wA)]
def WkK (K:AV→St→Prop):AV→St→Prop:=fun v s=>∃b,(b=v∨WkL [v.sh] [b])∧K b s
end Go.AM
namespace Go.AM
open Go
set_option maxRecDepth 20000
set_option linter.unusedSectionVars false
structure KeyK {κ:Type} [DecidableEq κ] (kk:KK) (kf:κ→AV):Prop where
  fits:∀a,kk.fits (kf a)=true
  eq:∀a b,AV.beq (kf a) (kf b)=decide (a=b)
theorem keyK_int:KeyK (.one (.int .i64)) iA:=⟨fun a=>rfl,fun a b=>by simp [iA,AV.beq]⟩
theorem keyK_key:KeyK (.leaf lk) kA:=⟨fun a=>by simp only [KK.fits,kA,fits_k],fun a b=>by simp only [kA,AV.beq,beq_kk]⟩
section
variable {κ β:Type} [DecidableEq κ] {kk:KK} {kf:κ→AV} {kp:β→κ} {vf:β→AV}
def RelM (kf:κ→AV) (kp:β→κ) (vf:β→AV) (es:List Entry) (l:List β):Prop:=es.map (fun e=>(e.key,e.val))=l.map fun x=>(kf (kp x),vf x)
structure MapG (kf:κ→AV) (kp:β→κ) (vf:β→AV) (es:List Entry) (c:Nat) (l:List β):Prop where
  rel:RelM kf kp vf es l
  nd:(es.map (·.born)).Nodup
  lt:∀e∈es,e.born < c
def getB (kp:β→κ) (l:List β) (k:κ):Option β:=l.find? fun x=>decide (kp x=k)
theorem find_none (hK:KeyK kk kf):∀{es:List Entry} {l:List β} {k:κ} {i:Nat},RelM kf kp vf es l→(∀x∈l,kp x≠k)→findL kk (kf k) es i=some none
  | [],[],k,i,_,_=>rfl
  | [],x :: l,k,i,h,_=>by cases h
  | e :: es,[],k,i,h,_=>by cases h
  | e :: es,x :: l,k,i,h,hk=>by
    unfold RelM at h
    simp only [List.map_cons,List.cons.injEq,Prod.mk.injEq] at h
    have hq:keyEqL kk (kf k) e.key=some false:=by
      rw [h.1.1]
      simp only [keyEqL,hK.fits,and_self,if_true,hK.eq]
      rw [decide_eq_false fun e=>hk x List.mem_cons_self e.symm]
    rw [findL,hq]
    exact find_none hK h.2 fun y hy=>hk y (List.mem_cons_of_mem _ hy)
theorem find_some (hK:KeyK kk kf):∀{es:List Entry} {l:List β} {k:κ} {x:β} {i:Nat},RelM kf kp vf es l→getB kp l k=some x→∃j e,j < l.length∧l[j]? = some x∧es[j]? = some e∧e.val=vf x∧kp x=k∧(∀m,m < j→∀y,l[m]? = some y→kp y≠k)∧findL kk (kf k) es i=some (some (i + j,e))
  | [],[],k,x,i,_,h2=>by cases h2
  | [],y :: l,k,x,i,h,_=>by cases h
  | e :: es,[],k,x,i,h,_=>by cases h
  | e :: es,y :: l,k,x,i,h,h2=>by
    unfold RelM at h
    simp only [List.map_cons,List.cons.injEq,Prod.mk.injEq] at h
    unfold getB at h2
    rw [List.find?_cons] at h2
    by_cases hy:kp y=k
    · rw [decide_eq_true hy] at h2
      have hxy:y=x:=by simpa using h2
      subst hxy
      have hq:keyEqL kk (kf k) e.key=some true:=by
        rw [h.1.1]
        simp only [keyEqL,hK.fits,and_self,if_true,hK.eq]
        rw [decide_eq_true hy.symm]
      refine ⟨0,e,by simp,rfl,rfl,h.1.2,hy,fun m hm=>by omega,?_⟩
      rw [findL,hq]; rfl
    · rw [decide_eq_false hy] at h2
      have hq:keyEqL kk (kf k) e.key=some false:=by
        rw [h.1.1]
        simp only [keyEqL,hK.fits,and_self,if_true,hK.eq]
        rw [decide_eq_false fun e=>hy e.symm]
      obtain ⟨j,e',q1,q2,q3,q4,q5,q6,q7⟩:=find_some hK (i:=i + 1) h.2 h2
      refine ⟨j + 1,e',by simpa using q1,by simpa using q2,by simpa using q3,q4,q5,fun m hm z hz => ?_,?_⟩
      · cases m with
        | zero => have : y = z := by simpa using hz
                  subst this; exact hy
        | succ m=>exact q6 m (by omega) z (by simpa using hz)
      · rw [findL,hq]
        show findL kk (kf k) es (i + 1)=_
        rw [q7]
        congr 3; omega
theorem getB_none {l:List β} {k:κ} (h:getB kp l k=none):∀x∈l,kp x≠k:=by
  unfold getB at h
  rw [List.find?_eq_none] at h
  exact fun x hx e=>h x hx (decide_eq_true e)
def lookR (vf:β→AV) (z:AV) (ok:Bool):Option β→AV
  | some x=>if ok then .tup [vf x,.bool true] else vf x
  | none=>if ok then .tup [z,.bool false] else z
theorem map_look (hK:KeyK kk kf) {S:List (List AV)} {H:List HObj} {h c:Nat} {es:List Entry} {l:List β} {k:κ} {z:AV} {ok:Bool} (hm:H[h]? = some (.map es c)) (hR:RelM kf kp vf es l):lookupL kk z ok (.map h) (kf k) ⟨S,H⟩=some (lookR vf z ok (getB kp l k)):=by
  have hmo:mapOf ⟨S,H⟩ (.map h)=some (es,c):=by simp [mapOf,hm]
  simp only [lookupL,hK.fits,if_true,hmo]
  cases hg:getB kp l k with
  | none=>rw [find_none hK hR (getB_none hg)]; rfl
  | some x =>
    obtain ⟨j,e,q1,q2,q3,q4,q5,q6,q7⟩:=find_some hK (i:=0) hR hg
    rw [q7]
    simp only [q4,lookR]
theorem map_new (hK:KeyK kk kf) {S:List (List AV)} {H:List HObj} {h c:Nat} {es:List Entry} {l:List β} {k:κ} {v:AV} (hm:H[h]? = some (.map es c)) (hR:RelM kf kp vf es l) (hk:∀x∈l,kp x≠k) (hv:AV.under 0 v=true):updateL kk (.map h) (kf k) v ⟨S,H⟩=some ⟨S,H.set h (.map (es ++ [⟨kf k,v,c⟩]) (c + 1))⟩:=by
  have hmo:mapOf ⟨S,H⟩ (.map h)=some (es,c):=by simp [mapOf,hm]
  simp only [updateL,hK.fits,hv,and_self,if_true,hmo,find_none hK hR hk]
  rfl
theorem MapG.new {es:List Entry} {c:Nat} {l:List β} {x:β} (h:MapG kf kp vf es c l):MapG kf kp vf (es ++ [⟨kf (kp x),vf x,c⟩]) (c + 1) (l ++ [x]):=by
  obtain ⟨h1,h2,h3⟩:=h
  refine ⟨?_,?_,?_⟩
  · unfold RelM at h1 ⊢
    rw [List.map_append,List.map_append,h1]; rfl
  · rw [List.map_append,List.nodup_append]
    refine ⟨h2,by simp,fun a ha b hb => ?_⟩
    simp only [List.map_cons,List.map_nil,List.mem_singleton] at hb
    rw [List.mem_map] at ha
    obtain ⟨e,he,rfl⟩:=ha
    have:=h3 e he
    omega
  · intro e he
    rcases List.mem_append.1 he with he | he
    · have:=h3 e he; omega
    · simp only [List.mem_singleton] at he; subst he; exact Nat.lt_succ_self _
theorem MapG.del (hK:KeyK kk kf) {H:List HObj} {h c:Nat} {es:List Entry} {l:List β} {k:κ} (hm:H[h]? = some (.map es c)) (hG:MapG kf kp vf es c l) (hnd:(l.map kp).Nodup):∃es',(∀S:List (List AV),deleteL kk (.map h) (kf k) ⟨S,H⟩=some ⟨S,H.set h (.map es' c)⟩)∧MapG kf kp vf es' c (l.filter fun x=>decide (kp x≠k)):=by
  have hmo:∀S,mapOf ⟨S,H⟩ (.map h)=some (es,c):=fun S=>by simp [mapOf,hm]
  obtain ⟨hR,h2,h3⟩:=hG
  simp only [deleteL,hK.fits,if_true,hmo]
  cases hg:getB kp l k with
  | none =>
    refine ⟨es,fun S=>by rw [find_none hK hR (getB_none hg)]; rfl,?_,h2,h3⟩
    rw [List.filter_eq_self.2 fun x hx=>decide_eq_true (getB_none hg x hx)]
    exact hR
  | some x =>
    obtain ⟨j,e,q1,q2,q3,q4,q5,q6,q7⟩:=find_some hK (i:=0) hR hg
    refine ⟨es.eraseIdx j,fun S=>by rw [q7,Nat.zero_add]; rfl,?_,?_,?_⟩
    · have hf:l.filter (fun x=>decide (kp x≠k))=l.eraseIdx j:=by
        rw [List.eraseIdx_eq_take_drop_succ]
        have hl:l=l.take j ++ l[j] :: l.drop (j + 1):=by rw [List.getElem_cons_drop,List.take_append_drop]
        have hx:l[j]=x:=by rw [List.getElem?_eq_getElem q1] at q2; exact Option.some.inj q2
        conv=>lhs; rw [hl]
        rw [List.filter_append,List.filter_cons,hx,if_neg (by simp [q5])]
        congr 1
        · refine List.filter_eq_self.2 fun y hy=>decide_eq_true ?_
          obtain ⟨m,hm,rfl⟩:=List.mem_iff_getElem.1 hy
          rw [List.length_take] at hm
          rw [List.getElem_take]
          exact q6 m (by omega) _ (List.getElem?_eq_getElem (by omega))
        · refine List.filter_eq_self.2 fun y hy=>decide_eq_true ?_
          obtain ⟨m,hm,rfl⟩:=List.mem_iff_getElem.1 hy
          rw [List.length_drop] at hm
          rw [List.getElem_drop]
          intro hy2
          have h5:=List.pairwise_iff_getElem.1 hnd j (j + 1 + m) (by simpa using q1) (by simp; omega) (by omega)
          rw [List.getElem_map,List.getElem_map,hx,q5,hy2] at h5
          exact h5 rfl
      rw [hf]
      unfold RelM at hR ⊢
      rw [List.eraseIdx_eq_take_drop_succ,List.eraseIdx_eq_take_drop_succ,List.map_append,List.map_append,List.map_take,List.map_take,List.map_drop,List.map_drop,hR]
    · exact h2.sublist ((List.eraseIdx_sublist es j).map _)
    · exact fun e he=>h3 e ((List.eraseIdx_sublist es j).mem he)
end
end Go.AM
namespace Go.AM
open Go
set_option maxRecDepth 20000
def entA (e:Ent):AV := .agg (enc e)
def holV (p:Key×Int):AV:=iA p.2
structure TabH (H:List HObj) (h h1 h2:Nat) (tb:List Ent) (hl:List (Key×Int)):Prop where
  n1:h≠h1
  n2:h≠h2
  n12:h1≠h2
  at0:H[h]? = some (.cells [.map h1,.map h2])
  at1:∃es c,H[h1]? = some (.map es c)∧MapG iA Ent.id entA es c tb
  at2:∃es c,H[h2]? = some (.map es c)∧MapG kA Prod.fst holV es c hl
def Ext (H H':List HObj) (h1 h2:Nat):Prop:=H.length≤H'.length∧∀i,i < H.length→i≠h1→i≠h2→H'[i]? = H[i]?
theorem Ext.refl {H:List HObj} {h1 h2:Nat}:Ext H H h1 h2:=⟨Nat.le_refl _,fun _ _ _ _=>rfl⟩
theorem Ext.trans {H H' H'':List HObj} {h1 h2:Nat} (a:Ext H H' h1 h2) (b:Ext H' H'' h1 h2):Ext H H'' h1 h2 :=
  ⟨Nat.le_trans a.1 b.1,fun i hi e1 e2=>(b.2 i (Nat.lt_of_lt_of_le hi a.1) e1 e2).trans (a.2 i hi e1 e2)⟩
theorem Ext.app {H G:List HObj} {h1 h2:Nat}:Ext H (H ++ G) h1 h2:=⟨by simp,fun i hi _ _=>List.getElem?_append_left hi⟩
theorem Ext.set1 {H:List HObj} {o:HObj} {h1 h2:Nat}:Ext H (H.set h1 o) h1 h2:=⟨by simp,fun i _ e1 _=>List.getElem?_set_ne fun e=>e1 e.symm⟩
theorem Ext.set2 {H:List HObj} {o:HObj} {h1 h2:Nat}:Ext H (H.set h2 o) h1 h2:=⟨by simp,fun i _ _ e2=>List.getElem?_set_ne fun e=>e2 e.symm⟩
theorem hlt {H:List HObj} {h:Nat} {o:HObj} (e:H[h]? = some o):h < H.length:=(List.getElem?_eq_some_iff.1 e).1
theorem happ {H G:List HObj} {h:Nat} {o:HObj} (e:H[h]? = some o):(H ++ G)[h]? = some o:=by rw [List.getElem?_append_left (hlt e)]; exact e
theorem hset {H:List HObj} {h j:Nat} {o o':HObj} (hne:j≠h) (e:H[h]? = some o):(H.set j o')[h]? = some o:=by rw [List.getElem?_set_ne hne]; exact e
theorem hself {H:List HObj} {h:Nat} {o o':HObj} (e:H[h]? = some o):(H.set h o')[h]? = some o':=by rw [List.getElem?_set_self (hlt e)]
theorem TabH.app {H G:List HObj} {h h1 h2:Nat} {tb:List Ent} {hl:List (Key×Int)} (t:TabH H h h1 h2 tb hl):TabH (H ++ G) h h1 h2 tb hl:=by
  obtain ⟨n1,n2,n12,a0,⟨e1,c1,a1,g1⟩,⟨e2,c2,a2,g2⟩⟩:=t
  exact ⟨n1,n2,n12,happ a0,⟨e1,c1,happ a1,g1⟩,⟨e2,c2,happ a2,g2⟩⟩
theorem TabH.set1 {H:List HObj} {h h1 h2 c:Nat} {es:List Entry} {tb tb':List Ent} {hl:List (Key×Int)} (t:TabH H h h1 h2 tb hl) (g:MapG iA Ent.id entA es c tb'):TabH (H.set h1 (.map es c)) h h1 h2 tb' hl:=by
  obtain ⟨n1,n2,n12,a0,⟨e1,c1,a1,g1⟩,⟨e2,c2,a2,g2⟩⟩:=t
  exact ⟨n1,n2,n12,hset n1.symm a0,⟨es,c,hself a1,g⟩,⟨e2,c2,hset n12 a2,g2⟩⟩
theorem TabH.set2 {H:List HObj} {h h1 h2 c:Nat} {es:List Entry} {tb:List Ent} {hl hl':List (Key×Int)} (t:TabH H h h1 h2 tb hl) (g:MapG kA Prod.fst holV es c hl'):TabH (H.set h2 (.map es c)) h h1 h2 tb hl':=by
  obtain ⟨n1,n2,n12,a0,⟨e1,c1,a1,g1⟩,⟨e2,c2,a2,g2⟩⟩:=t
  exact ⟨n1,n2,n12,hset n2.symm a0,⟨e1,c1,hset n12.symm a1,g1⟩,⟨es,c,hself a2,g⟩⟩
theorem TabH.look2 {S:List (List AV)} {H:List HObj} {h h1 h2:Nat} {tb:List Ent} {hl:List (Key×Int)} (t:TabH H h h1 h2 tb hl) (k:Key) (z:AV) (ok:Bool):lookupL (.leaf lk) z ok (.map h2) (.agg (bs k.b)) ⟨S,H⟩=some (lookR holV z ok (getB Prod.fst hl k)):=by
  obtain ⟨es,c,a,g⟩:=t.at2
  exact map_look keyK_key (k:=k) (z:=z) (ok:=ok) a g.rel
end Go.AM
namespace Go.AM
open Go
set_option maxRecDepth 20000
theorem getB_mem {β κ:Type} [DecidableEq κ] {kp:β→κ} {l:List β} {k:κ} {x:β} (h:getB kp l k=some x):x∈l∧kp x=k:=⟨List.mem_of_find?_eq_some h,by have:=List.find?_some h; exact of_decide_eq_true this⟩
end Go.AM
namespace Go.AM
open Go
set_option maxRecDepth 20000
end Go.AM
namespace Go.AM
open Go
set_option maxRecDepth 20000
end Go.AM
namespace Go.AM
open Go
set_option maxRecDepth 20000
section
variable {C:CallW} {P:Program} {rd:Bool}
theorem opS_rng {d x l is fr S H K h es c} (hx:seL fr x = .map h) (hm:H[h]? = some (.map es c)):opS C P rd d (.rng x) l is fr ⟨S,H⟩ K=runS C P rd l is (putA d (.ptr (.heap H.length) 0) fr) ⟨S,H ++ [.iter ⟨some h,c,[],c⟩]⟩ K:=by
  have hmo:mapOf ⟨S,H⟩ (.map h)=some (es,c):=by simp [mapOf,hm]
  unfold opS
  rw [show mayb (.rng x) fr=false from rfl]
  simp only [mb]
  unfold doL
  simp only [settledL,settleL,hx,hmo]
theorem opS_nxt {d x l is fr S H K n h es c} {it:IterA} (hx:seL fr x = .ptr (.heap n) 0) (hi:H[n]? = some (.iter it)) (hp:it.map=some h) (hm:H[h]? = some (.map es c)):opS C P rd d (.nxt x) l is fr ⟨S,H⟩ K=((it.seen=[]∨es=[]∨∃e∈es,e.born < it.stepped)∧((∀e∈es,e.born∈it.seen∨it.since≤e.born)→runS C P rd l is (putA d (.tup [.bool false]) fr) ⟨S,H⟩ K)∧∀e∈es,e.born∉it.seen→runS C P rd l is (putA d (.tup [.bool true,e.key,e.val]) fr) ⟨S,H.set n (.iter { it with seen:=it.seen ++ [e.born],stepped:=c })⟩ K):=by
  have hmo:mapOf ⟨S,H⟩ (.map h)=some (es,c):=by simp [mapOf,hm]
  have hio:iterOf ⟨S,H⟩ (.ptr (.heap n) 0)=some (n,it):=by simp [iterOf,hi]
  unfold opS
  rw [show mayb (.nxt x) fr=false from rfl]
  simp only [mb]
  unfold doL
  simp only [settledL,settleL,hx,hio,hp,hmo]
  rfl
theorem opS_ent {d x l is fr S H K n h es c b} {e:Entry} {it:IterA} (hx:seL fr x = .ptr (.heap n) 0) (hi:H[n]? = some (.iter it)) (hp:it.map=some h) (hm:H[h]? = some (.map es c)) (hb:it.seen.getLast? = some b) (hc:c=it.stepped) (hf:es.find? (fun e=>e.born == b)=some e):opS C P rd d (.ent x) l is fr ⟨S,H⟩ K=runS C P rd l is (putA d (.tup [e.key,e.val]) fr) ⟨S,H⟩ K:=by
  have hmo:mapOf ⟨S,H⟩ (.map h)=some (es,c):=by simp [mapOf,hm]
  have hio:iterOf ⟨S,H⟩ (.ptr (.heap n) 0)=some (n,it):=by simp [iterOf,hi]
  unfold opS
  rw [show mayb (.ent x) fr=false from rfl]
  simp only [mb]
  unfold doL
  simp only [settledL,settleL,hx,hio,hp,hb,hmo,hf]
  simp [hc]
end
theorem born_find {es:List Entry} (hnd:(es.map (·.born)).Nodup) {e:Entry} (he:e∈es):es.find? (fun x=>x.born == e.born)=some e:=by
  induction es with
  | nil=>cases he
  | cons y es ih =>
    rw [List.map_cons,List.nodup_cons] at hnd
    rw [List.find?_cons]
    rcases List.mem_cons.1 he with rfl | he
    · simp
    · have:(y.born == e.born)=false:=by
        cases hq:(y.born == e.born) with
        | false=>rfl
        | true =>
          have hq:y.born=e.born:=by simpa using hq
          exact absurd (List.mem_map.2 ⟨e,he,hq.symm⟩) hnd.1
      rw [this]
      exact ih hnd.2 he
end Go.AM
namespace Go.AM
open Go
set_option maxRecDepth 20000
end Go.AM
namespace Go.AM
open Go
set_option maxRecDepth 20000
def slZ (l:List Int):AV:=if l=[] then .s .nilS else .list .uniq 1 (l.map iA)
theorem slZ_under {n:Nat} {l:List Int}:AV.under n (slZ l)=true:=by unfold slZ; split <;> rfl
theorem slZ_nil:slZ [] = .s .nilS:=rfl
theorem slZ_snoc (l:List Int) (v:Int):slZ (l ++ [v]) = .list .uniq 1 ((l ++ [v]).map iA):=if_neg (by simp)
theorem app_slZ {e:ET} {l:List Int} {v:Int} {σ:St} (h1:e.c=1) (h2:e.bytes=8) (hl:l.length≤1000000):appendL e false (slZ l) (.list .full 1 [.s (.int .i64 v)]) σ=some (.list .uniq 1 ((l ++ [v]).map iA),σ):=by
  have h:=app_slG (e:=e) (es:=l.map iA) (a:=iA v) (σ:=σ) rfl (by rw [List.length_map,h2]; omega)
  rw [h1] at h
  have e1:slG 1 (l.map iA)=slZ l:=by unfold slG slZ; by_cases e:l=[] <;> simp [e]
  rw [e1] at h
  rw [show (AV.s (.int .i64 v))=iA v from rfl,h]
  unfold slG
  rw [if_neg (by simp),List.map_append]
  rfl
theorem load_kept {S:List (List AV)} {H G:List HObj} {l:List Int}:load1L true (.ptr (.heap H.length) 0) ⟨S,H ++ .cells [slZ l] :: G⟩=some (slZ l,⟨S,H ++ .cells [(slZ l).left] :: G⟩):=by
  have hb:boxOf ⟨S,H ++ .cells [slZ l] :: G⟩ (.heap H.length)=some [slZ l]:=by simp [boxOf]
  simp only [load1L,hb,Option.bind_some]
  simp [splice,setBox]
theorem store_kept {S:List (List AV)} {H G:List HObj} {a:AV} {es:List AV}:storeUL (.ptr (.heap H.length) 0) (.list .uniq 1 es) ⟨S,H ++ .cells [a] :: G⟩=some ⟨S,H ++ .cells [.list .uniq 1 es] :: G⟩:=by
  have hb:boxOf ⟨S,H ++ .cells [a] :: G⟩ (.heap H.length)=some [a]:=by simp [boxOf]
  simp [storeUL,AV.fit,AV.kept,AV.isCell,hb,writeCells,mayHold,AV.under.go,AV.under,splice,setBox]
structure MapI (H:List HObj) (bx hm c:Nat) (es:List Entry) (x:Entry→Int):Prop where
  box:H[bx]? = some (.cells [.map hm])
  map:H[hm]? = some (.map es c)
  nd:(es.map (·.born)).Nodup
  lt:∀e∈es,e.born < c
  key:∀e∈es,e.key=iA (x e)
  len:es.length≤1000000
def arrZ (l:List Int):Array Int:=l.toArray
theorem arrZ_flat (l:List Int):flat iA (arrZ l)=l.map iA:=by rw [flat_iA]; rfl
theorem thaw_slZ {fr:Fr} {t:Nat} {l:List Int} {S:List (List AV)} {H:List HObj} (hne:l≠[]) (h:fr.getD t .undef=slZ l):AM.thaw fr (.tmp t) ⟨S,H⟩=some (.row (.stk S.length) 0 l.length l.length,fr.set t (.row (.stk S.length) 0 l.length l.length),⟨S ++ [flat iA (arrZ l)],H⟩):=by
  have hc:∀l:List Int,(l.map iA).flatMap AV.cells=l.map iA:=by
    intro l
    induction l with
    | nil=>rfl
    | cons x l ih=>rw [List.map_cons,List.flatMap_cons,ih]; rfl
  have hu:∀(m:Nat) (l:List Int),underL m (l.map iA)=true:=by
    intro m l
    induction l with
    | nil=>rfl
    | cons x l ih=>exact ih
  unfold AM.thaw
  simp only [h,slZ,if_neg hne]
  rw [if_neg (by simp [hne]),hc,newBox_stk (hu _ _),arrZ_flat]
  simp
theorem thaw_slZ0 {fr:Fr} {t:Nat} {σ:St} (h:fr.getD t .undef=slZ []):AM.thaw fr (.tmp t) σ=some (.s .nilS,fr,σ):=by
  unfold AM.thaw
  simp only [h]
  rfl
theorem sorted_le {R:Array Int} {n:Nat} (hn:R.size=n) (h:Sort.SortedIn ltI 0 n R):R.toList.Pairwise (·≤·):=by
  rw [List.pairwise_iff_getElem]
  intro i j hi hj hij
  have hj':j < R.size:=by simpa using hj
  have hi':i < R.size:=by simpa using hi
  have:=h i j (Nat.zero_le _) hij (by omega)
  rw [get_bang hj',get_bang hi'] at this
  unfold ltI at this
  have:=of_decide_eq_false this
  omega
theorem sorted_perm {R:Array Int} {l:List Int} (h:Sort.PermIn 0 l.length (arrZ l) R):R.toList.Perm l:=by
  have hsz:R.size=l.length:=h.1
  have:=h.2.2
  rw [←hsz,Array.extract_size,hsz] at this
  rw [show l.length=(arrZ l).size from rfl,Array.extract_size] at this
  exact this
def lstZ (l:List Int):AV := .list .sh 1 (l.map iA)
end Go.AM
namespace Go.AM
open Go
set_option maxRecDepth 20000
set_option linter.unusedSectionVars false
section
variable {κ β:Type} [DecidableEq κ] {kk:KK} {kf:κ→AV} {kp:β→κ} {vf:β→AV}
def putB (kp:β→κ) (l:List β) (x:β):List β:=match getB kp l (kp x) with
  | some _=>l.map fun y=>if kp y=kp x then x else y
  | none=>l ++ [x]
theorem MapG.upd (hK:KeyK kk kf) {H:List HObj} {h c:Nat} {es:List Entry} {l:List β} {x:β} (hm:H[h]? = some (.map es c)) (hG:MapG kf kp vf es c l) (hnd:(l.map kp).Nodup) (hv:AV.under 0 (vf x)=true):∃es' c',(∀S:List (List AV),updateL kk (.map h) (kf (kp x)) (vf x) ⟨S,H⟩=some ⟨S,H.set h (.map es' c')⟩)∧MapG kf kp vf es' c' (putB kp l x):=by
  unfold putB
  cases hg:getB kp l (kp x) with
  | none =>
    exact ⟨_,_,fun S=>map_new hK (S:=S) (v:=vf x) hm hG.rel (getB_none hg) hv,hG.new⟩
  | some y =>
    have hmo:∀S,mapOf ⟨S,H⟩ (.map h)=some (es,c):=fun S=>by simp [mapOf,hm]
    obtain ⟨hR,h2,h3⟩:=hG
    obtain ⟨j,e,q1,q2,q3,q4,q5,q6,q7⟩:=find_some hK (i:=0) hR hg
    have hlen:es.length=l.length:=by have:=congrArg List.length hR; simpa [RelM] using this
    have hb:(es.set j { e with key:=kf (kp x),val:=vf x }).map (·.born)=es.map (·.born):=by
      refine List.ext_getElem? fun i => ?_
      rw [List.getElem?_map,List.getElem?_map]
      by_cases hi:j=i
      · subst hi
        rw [List.getElem?_set_self (by omega),q3]; rfl
      · rw [List.getElem?_set_ne hi]
    refine ⟨es.set j { e with key:=kf (kp x),val:=vf x },c,fun S => ?_,?_,?_,?_⟩
    · simp only [updateL,hK.fits,hv,and_self,if_true,hmo,q7,Nat.zero_add]; rfl
    · unfold RelM at hR ⊢
      refine List.ext_getElem? fun i => ?_
      have hRi:=congrArg (fun z:List (AV×AV)=>z[i]?) hR
      rw [List.getElem?_map,List.getElem?_map] at hRi ⊢
      rw [List.getElem?_map]
      by_cases hi:j=i
      · subst hi
        rw [List.getElem?_set_self (by omega),q2]
        simp only [Option.map_some,if_pos q5]
      · rw [List.getElem?_set_ne hi,hRi]
        cases hli:l[i]? with
        | none=>rfl
        | some z =>
          have:kp z≠kp x:=by
            intro hz
            have hi2:i < l.length:=(List.getElem?_eq_some_iff.1 hli).1
            have:=List.pairwise_iff_getElem.1 hnd
            have e1:(l.map kp)[j]'(by simpa using q1)=kp x:=by rw [List.getElem_map]; rw [List.getElem?_eq_getElem q1] at q2; rw [Option.some.inj q2]; exact q5
            have e2:(l.map kp)[i]'(by simpa using hi2)=kp x:=by rw [List.getElem_map]; rw [List.getElem?_eq_getElem hi2] at hli; rw [Option.some.inj hli]; exact hz
            rcases Nat.lt_or_gt_of_ne hi with h | h
            · exact this j i (by simpa using q1) (by simpa using hi2) h (e1.trans e2.symm)
            · exact this i j (by simpa using hi2) (by simpa using q1) h (e2.trans e1.symm)
          simp only [Option.map_some,if_neg this]
    · rw [hb]; exact h2
    · intro e' he
      obtain ⟨i,hi,rfl⟩:=List.mem_iff_getElem.1 he
      have hb2:=congrArg (fun z:List Nat=>z[i]?) hb
      rw [List.getElem?_map,List.getElem?_map,List.getElem?_eq_getElem hi] at hb2
      rw [List.length_set] at hi
      rw [List.getElem?_eq_getElem hi] at hb2
      have hb3:((es.set j { e with key:=kf (kp x),val:=vf x })[i]'(by simpa using hi)).born=es[i].born:=Option.some.inj hb2
      rw [hb3]
      exact h3 _ (List.getElem_mem hi)
end
end Go.AM
namespace Go.AM
open Go
theorem loop_ruleS {C : CallW} {P : Program} {rd : Bool} (hC : LeC C C) {m : List Bool} {b : LCode} {n0 : Nat} {is : List Item} {fr : Fr} {S : List (List AV)} {H : List HObj} {K : KC} {α : Type} (μ : α → Nat) (F : α → Fr) (I : α → Prop) (a0 : α)
    (h0:I a0) (hk:keep m fr=F a0) (hS:S.take n0=S) (hu:∀a,I a→underL n0 (F a)=true)
    (step:∀a,I a→(∀a' fr' S' H',μ a' < μ a→I a'→keep m fr'=F a'→S'.take n0=S→H'=H→runLp C P rd m b n0 is fr' ⟨S',H'⟩ K)→runC C P rd b (.lp m b n0 :: is) (F a) ⟨S,H⟩ K) :
    runLp C P rd m b n0 is fr ⟨S,H⟩ K :=
  loop_rule hC μ F (fun _=>S) (fun _=>H) I a0 h0 hk hS rfl hu step
end Go.AM
namespace Go.AM
open Go
open AV renaming undef → uu
set_option maxRecDepth 20000
def PdqNF (C:CallW) (f:FuncId):Prop:=∀(g:FuncId) (q:List AV) (S:List (List AV)) (H:List HObj) (K:AV→St→Prop),AV.under.go S.length q=true→K (.tup []) ⟨S,H⟩→C (.fn f) [.s .nilS,.s (.int .i64 (0:Nat)),.s (.int .i64 (0:Nat)),.s (.int .i64 (0:Nat)),.fn (.func g) [] q] ⟨S,H⟩ K
def SrtNF (C:CallW) (f:FuncId):Prop:=∀(g:FuncId) (q:List AV) (S:List (List AV)) (H:List HObj) (K:AV→St→Prop),AV.under.go S.length q=true→K (.tup []) ⟨S,H⟩→C (.fn f) [.s .nilS,.s (.int .i64 (0:Nat)),.s (.int .i64 (0:Nat)),.fn (.func g) [] q] ⟨S,H⟩ K
set_option maxHeartbeats 4000000 in
theorem insertionSort_nilF {C:CallW} (hC:LeC C C) (P:Program):∀(g:FuncId) (q:List AV) (S:List (List AV)) (H:List HObj) (K:AV→St→Prop),AV.under.go S.length q=true→K (.tup []) ⟨S,H⟩→runL C P Czw [.s .nilS,.s (.int .i64 (0:Nat)),.s (.int .i64 (0:Nat)),.fn (.func g) [] q] ⟨S,H⟩ K:=by
  intro g q S H K hx hK
  have hw0:IntKind.i64.wrap (((0:Nat):Int) + 1)=1:=rfl
  simp only [Czw,A_,simprocAttr,ne_eq,Uzm.1,hw0]
  refine loop_rule hC (α:=Unit) (fun _=>0) (fun _=>[.s .nilS,.s (.int .i64 (0:Nat)),.s (.int .i64 (0:Nat)),.fn (.func g) [] q,uu,uu,uu,uu,.s (.int .i64 1),uu,uu,uu,uu,uu,uu,uu,uu,uu,uu,uu,uu,uu,uu,uu,uu,uu,uu,uu,uu,uu,uu,uu,uu,uu,uu,uu,uu,uu,uu,uu,uu,uu,uu,uu,uu,uu,uu,uu,uu,uu,uu,uu,uu]) (fun _=>S) (fun _=>H) (fun _=>True) () trivial (by simp [keep,zm]) (by rw [List.take_of_length_le (Nat.le_refl _)]) rfl (fun _ _=>by simp [AV.under,AV.under.go,hx]) ?_
  rintro _ _ ih
  have hlt:((1:Int) < ((0:Nat):Int))=False:=eq_false (by omega)
  have hlt2:((1:Int) < 0)=False:=eq_false (by omega)
  simp only [Czw,A_,simprocAttr,ne_eq,Uzm.1,hlt,hlt2]
  exact hK
set_option maxHeartbeats 4000000 in
theorem pdqsort_nilF {C:CallW} (hC:LeC C C) (P:Program) {c:Nat→FuncId} (h0:SrtNF C (c 0)):∀(g:FuncId) (q:List AV) (S:List (List AV)) (H:List HObj) (K:AV→St→Prop),AV.under.go S.length q=true→K (.tup []) ⟨S,H⟩→runL C P (Cz11 c) [.s .nilS,.s (.int .i64 (0:Nat)),.s (.int .i64 (0:Nat)),.s (.int .i64 (0:Nat)),.fn (.func g) [] q] ⟨S,H⟩ K:=by
  intro g q S H K hx hK
  simp only [Cz11,A_,simprocAttr,ne_eq,(Uz1y _).1]
  refine loop_rule hC (α:=Unit) (fun _=>0) (fun _=>[.s .nilS,.s (.int .i64 (0:Nat)),.s (.int .i64 (0:Nat)),.s (.int .i64 (0:Nat)),.fn (.func g) [] q,uu,uu,uu,uu,uu,.s (.bool true),.s (.bool true),uu,uu,uu,uu,uu,uu,uu,uu,uu,uu,uu,uu,uu,uu,uu,uu,uu,uu,uu,uu,uu,uu,uu,uu,uu,uu,uu,uu,uu,uu,uu,uu,uu,uu,uu,uu,uu,uu,uu,uu,uu,uu,uu,uu,uu,uu,uu,uu,uu,uu,uu,uu,uu,uu,uu,uu,uu,uu,uu,uu,uu,uu,uu,uu,uu,uu,uu,uu,uu,uu,uu,uu,uu,uu,uu,uu,uu,uu,uu,uu,uu,uu,uu,uu,uu,uu,uu,uu,uu,uu,uu,uu,uu,uu,uu,uu,uu,uu,uu,uu,uu,uu,uu,uu,uu,uu,uu,uu,uu,uu,uu,uu,uu,uu,uu,uu,uu,uu,uu,uu,uu,uu,uu,uu,uu,uu,uu,uu,uu,uu,uu,uu,uu,uu,uu,uu]) (fun _=>S) (fun _=>H) (fun _=>True) () trivial (by simp [keep,zm]) (by rw [List.take_of_length_le (Nat.le_refl _)]) rfl (fun _ _=>by simp [AV.under,AV.under.go,hx]) ?_
  rintro _ _ ih
  have hw:IntKind.i64.wrap (((0:Nat):Int) - ((0:Nat):Int))=0:=rfl
  have hlt:((0:Int)≤12)=True:=eq_true (by omega)
  simp only [Cz11,A_,simprocAttr,ne_eq,(Uz1y _).1,hw,hlt]
  refine h0 _ _ _ _ _ hx ?_
  simp only [Cz11,A_,simprocAttr,ne_eq,(Uz1y _).1]
  exact hK
def SortFS (C:CallW) (g:FuncId) (q:List AV) (cv:Int→Int→Int) (f:FuncId):Prop:=∀(n:Nat) (d:Array Int) (S:List (List AV)) (H:List HObj) (K:AV→St→Prop),AskC C g q cv n n S H→S[n]? = some (flat iA d)→d.size≤2305843009213693952→(∀R,Sort.PermIn 0 d.size d R→Sort.SortedIn (ltC cv) 0 d.size R→K (.tup []) ⟨S.set n (flat iA R),H⟩)→C (.fn f) [.row (.stk n) 0 d.size d.size,.fn (.func g) [] q] ⟨S,H⟩ K
theorem SortFunc_spec {C:CallW} (P:Program) {c:Nat→FuncId} {g:FuncId} {q:List AV} {cv:Int→Int→Int} (h0:LenS C (c 0)) (h1:∀m,PdqSF C g q cv (c 1) m):∀(n:Nat) (d:Array Int) (S:List (List AV)) (H:List HObj) (K:AV→St→Prop),AskC C g q cv n n S H→S[n]? = some (flat iA d)→d.size≤2305843009213693952→(∀R,Sort.PermIn 0 d.size d R→Sort.SortedIn (ltC cv) 0 d.size R→K (.tup []) ⟨S.set n (flat iA R),H⟩)→runL C P (Cz1r c) [.row (.stk n) 0 d.size d.size,.fn (.func g) [] q] ⟨S,H⟩ K:=by
  intro n d S H K hq hS hd hK
  have hc:IntKind.u64.wrap (d.size:Int)=(d.size:Int):=wu64 (by omega)
  simp only [Cz1r,A_,simprocAttr,ne_eq,(Uz1d _).1,convL,hc]
  refine h0 d.size (by omega) _ _ _ ?_
  have hb:=bitsLen_le (x:=d.size) (k:=62) (by omega)
  simp only [A_,simprocAttr,ne_eq,(Uz1d _).1]
  refine h1 (d.size + 1) n d 0 d.size (Sort.bitsLen d.size) _ _ _ hq hS (Nat.zero_le _) (Nat.le_refl _) hd (by omega) (by omega) (.inl rfl) fun R h2 h3 => ?_
  simp only [A_,simprocAttr,ne_eq,(Uz1d _).1]
  exact hK R h2 h3
def SortFN (C:CallW) (f:FuncId):Prop:=∀(g:FuncId) (q:List AV) (S:List (List AV)) (H:List HObj) (K:AV→St→Prop),AV.under.go S.length q=true→K (.tup []) ⟨S,H⟩→C (.fn f) [.s .nilS,.fn (.func g) [] q] ⟨S,H⟩ K
theorem SortFunc_nil {C:CallW} (P:Program) {c:Nat→FuncId} (h0:LenS C (c 0)) (h1:PdqNF C (c 1)):∀(g:FuncId) (q:List AV) (S:List (List AV)) (H:List HObj) (K:AV→St→Prop),AV.under.go S.length q=true→K (.tup []) ⟨S,H⟩→runL C P (Cz1r c) [.s .nilS,.fn (.func g) [] q] ⟨S,H⟩ K:=by
  intro g q S H K hx hK
  have hc:IntKind.u64.wrap (0:Int)=((0:Nat):Int):=rfl
  simp only [Cz1r,A_,simprocAttr,ne_eq,(Uz1d _).1,convL,hc]
  refine h0 0 (by omega) _ _ _ ?_
  simp only [A_,simprocAttr,ne_eq,(Uz1d _).1]
  refine h1 _ _ _ _ _ hx ?_
  simp only [A_,simprocAttr,ne_eq,(Uz1d _).1]
  exact hK
def CmpNS (C:CallW) (f:FuncId):Prop:=∀x y:Int,FnS C f [.s (.int .i64 x),.s (.int .i64 y)] (.s (.int .i64 (cmpI x y)))
def OrS (C:CallW) (f:FuncId):Prop:=∀x y:Int,FnS C f [.list .sh 1 [.i x,.i y]] (.i (if x≠0 then x else y))
def cvW (due:Int→Int) (x y:Int):Int:=if cmpI (due x) (due y)=0 then cmpI x y else cmpI (due x) (due y)
theorem cmpI_lt {x y:Int}:cmpI x y < 0↔x < y:=by
  unfold cmpI
  split
  · exact ⟨fun _=>by assumption,fun _=>by omega⟩
  · split
    · exact ⟨fun h=>by omega,fun h=>by omega⟩
    · exact ⟨fun h=>by omega,fun h=>by omega⟩
theorem cmpI_eq {x y:Int}:cmpI x y=0↔x=y:=by
  unfold cmpI
  split
  · exact ⟨fun h=>by omega,fun h=>by omega⟩
  · split
    · exact ⟨fun h=>by omega,fun h=>by omega⟩
    · exact ⟨fun h=>by omega,fun h=>rfl⟩
theorem ltC_cvW {due:Int→Int} {x y:Int}:ltC (cvW due) x y=decide (due x < due y∨(due x=due y∧x < y)):=by
  unfold ltC cvW
  refine decide_eq_decide.2 ?_
  by_cases e:cmpI (due x) (due y)=0
  · rw [if_pos e,cmpI_lt]
    have:=cmpI_eq.1 e
    exact ⟨fun h => .inr ⟨this,h⟩,fun h=>by omega⟩
  · rw [if_neg e,cmpI_lt]
    have:¬due x=due y:=fun q=>e (cmpI_eq.2 q)
    exact ⟨fun h => .inl h,fun h=>by omega⟩
theorem swo_cvW (due:Int→Int):Sort.SWO (ltC (cvW due)) where
  irrefl x:=by rw [ltC_cvW]; simp
  trans x y z h1 h2:=by
    rw [ltC_cvW,decide_eq_true_eq] at *
    omega
  ntrans x y z h1 h2:=by
    rw [ltC_cvW,decide_eq_false_iff_not] at *
    omega
def vW (p:Int×Int):AV:=iA p.2
def wlc (room now:Int) (hm:Nat):List AV:=[.s (.int .i64 room),.s (.int .i64 now),.map hm]
structure WhX (H:List HObj) (h hm:Nat) (room now:Int) (l:List (Int×Int)):Prop where
  at0:H[h]? = some (.cells (wlc room now hm))
  atm:∃es c,H[hm]? = some (.map es c)∧MapG iA Prod.fst vW es c l
  nd:(l.map Prod.fst).Nodup
  len:(l.length:Int)≤room
  rm:room≤1000
  ne:h≠hm
theorem WhX.app {H G:List HObj} {h hm:Nat} {room now:Int} {l:List (Int×Int)} (t:WhX H h hm room now l):WhX (H ++ G) h hm room now l:=by
  obtain ⟨a0,⟨es,c,a1,g⟩,nd,len,rm,ne⟩:=t
  exact ⟨happ a0,⟨es,c,happ a1,g⟩,nd,len,rm,ne⟩
theorem WhX.keep {H H':List HObj} {h hm h1 h2:Nat} {room now:Int} {l:List (Int×Int)} (t:WhX H h hm room now l) (e:Ext H H' h1 h2) (n1:h≠h1) (n2:h≠h2) (n3:hm≠h1) (n4:hm≠h2):WhX H' h hm room now l:=by
  obtain ⟨a0,⟨es,c,a1,g⟩,nd,len,rm,ne⟩:=t
  exact ⟨by rw [e.2 _ (hlt a0) n1 n2]; exact a0,⟨es,c,by rw [e.2 _ (hlt a1) n3 n4]; exact a1,g⟩,nd,len,rm,ne⟩
theorem WhX.setm {H:List HObj} {h hm c:Nat} {room now:Int} {l l':List (Int×Int)} {es:List Entry} (t:WhX H h hm room now l) (g:MapG iA Prod.fst vW es c l') (nd:(l'.map Prod.fst).Nodup) (len:(l'.length:Int)≤room):WhX (H.set hm (.map es c)) h hm room now l':=by
  obtain ⟨a0,⟨es',c',a1,g'⟩,_,_,rm,ne⟩:=t
  exact ⟨hset ne.symm a0,⟨es,c,hself a1,g⟩,nd,len,rm,ne⟩
theorem WhX.setn {H:List HObj} {h hm:Nat} {room now now':Int} {l:List (Int×Int)} (t:WhX H h hm room now l):WhX (H.set h (.cells (wlc room now' hm))) h hm room now' l:=by
  obtain ⟨a0,⟨es',c',a1,g'⟩,nd,len,rm,ne⟩:=t
  exact ⟨hself a0,⟨es',c',hset ne a1,g'⟩,nd,len,rm,ne⟩
def dueOf (l:List (Int×Int)) (i:Int):Int:=match getB Prod.fst l i with
  | some p=>p.2
  | none=>0
def hasW (l:List (Int×Int)) (i:Int):Bool:=(getB Prod.fst l i).isSome
theorem WhX.look {S:List (List AV)} {H:List HObj} {h hm:Nat} {room now:Int} {l:List (Int×Int)} (t:WhX H h hm room now l) (i:Int):lookupL (.one (.int .i64)) (.s (.int .i64 0)) false (.map hm) (.s (.int .i64 i)) ⟨S,H⟩=some (.s (.int .i64 (dueOf l i))):=by
  obtain ⟨es,c,a,g⟩:=t.atm
  have:=map_look keyK_int (S:=S) (k:=i) (z := .s (.int .i64 0)) (ok:=false) a g.rel
  rw [show iA i=AV.s (.int .i64 i) from rfl] at this
  rw [this]
  unfold dueOf
  cases getB Prod.fst l i <;> rfl
theorem WhX.look2 {S:List (List AV)} {H:List HObj} {h hm:Nat} {room now:Int} {l:List (Int×Int)} (t:WhX H h hm room now l) (i:Int):lookupL (.one (.int .i64)) (.s (.int .i64 0)) true (.map hm) (.s (.int .i64 i)) ⟨S,H⟩=some (.tup [.s (.int .i64 (dueOf l i)),.s (.bool (hasW l i))]):=by
  obtain ⟨es,c,a,g⟩:=t.atm
  have:=map_look keyK_int (S:=S) (k:=i) (z := .s (.int .i64 0)) (ok:=true) a g.rel
  rw [show iA i=AV.s (.int .i64 i) from rfl] at this
  rw [this]
  unfold dueOf hasW
  cases getB Prod.fst l i <;> rfl
theorem WhX.lenm {S:List (List AV)} {H:List HObj} {h hm:Nat} {room now:Int} {l:List (Int×Int)} (t:WhX H h hm room now l):lenL .map (.map hm) ⟨S,H⟩=some l.length:=by
  obtain ⟨es,c,a,g⟩:=t.atm
  have hlen:es.length=l.length:=by have:=congrArg List.length g.rel; simpa [RelM] using this
  simp [lenL,mapOf,a,hlen]
def CvS (C:CallW) (g:FuncId):Prop:=∀(h hm r:Nat) (room now:Int) (l:List (Int×Int)) (x y:Int) S H (K:AV→St→Prop),WhX H h hm room now l→S[r]? = some [.ptr (.heap h) 0]→K (.s (.int .i64 (cvW (dueOf l) x y))) ⟨S,H⟩→C (.fn g) [.s (.int .i64 x),.s (.int .i64 y),.ptr (.stk r) 0] ⟨S,H⟩ K
theorem load_stk {S:List (List AV)} {H:List HObj} {r:Nat} {a:AV} (h:S[r]? = some [a]) (hc:a.look=a):load1L false (.ptr (.stk r) 0) ⟨S,H⟩=some (a,⟨S,H⟩):=by
  simp only [load1L,boxOf_stk,h,Option.bind_some]
  simp [hc]
set_option maxHeartbeats 4000000 in
theorem Advance1_spec {C:CallW} (hW:WkC C) (P:Program) {c:Nat→FuncId} (h0:CmpNS C (c 0)) (h1:OrS C (c 1)):∀(h hm r:Nat) (room now:Int) (l:List (Int×Int)) (x y:Int) S H (K:AV→St→Prop),WhX H h hm room now l→S[r]? = some [.ptr (.heap h) 0]→K (.s (.int .i64 (cvW (dueOf l) x y))) ⟨S,H⟩→runL C P (Cz1e c) [.s (.int .i64 x),.s (.int .i64 y),.ptr (.stk r) 0] ⟨S,H⟩ K:=by
  intro h hm r room now l x y S H K t hr hK
  have a0:=t.at0
  have lr:=load_stk (H:=H) hr rfl
  have lk:=fun i=>t.look (S:=S) i
  unfold wlc at a0
  simp only [Cz1e,A_,simprocAttr,ne_eq,(Uz29 _).1,CHK_,Nat.reduceBEq,lr,a0,lk]
  refine h0 _ _ _ _ _ ?_
  simp only [Cz1e,A_,simprocAttr,ne_eq,(Uz29 _).1,CHK_,Nat.reduceBEq,lr,a0,lk]
  refine h0 _ _ _ _ _ ?_
  simp only [Cz1e,A_,simprocAttr,ne_eq,(Uz29 _).1,CHK_,Nat.reduceBEq,lr,a0,lk,bslL,fillE,List.isEmpty_cons,List.isEmpty_nil]
  refine hW _ _ _ _ _ (.wk (show WkL [.list .full 1 [.i (cmpI (dueOf l x) (dueOf l y)),.i (cmpI x y)]] [.list .sh 1 [.i (cmpI (dueOf l x) (dueOf l y)),.i (cmpI x y)]] from .full .nil) .nil) (h1 _ _ _ _ _ ?_)
  simp only [Cz1e,A_,simprocAttr,ne_eq,(Uz29 _).1,CHK_,Nat.reduceBEq,lr,a0,lk]
  have:cvW (dueOf l) x y=if cmpI (dueOf l x) (dueOf l y)≠0 then cmpI (dueOf l x) (dueOf l y) else cmpI x y:=by
    unfold cvW
    by_cases e:cmpI (dueOf l x) (dueOf l y)=0
    · rw [if_pos e,if_neg (by simp [e])]
    · rw [if_neg e,if_pos e]
  rw [this] at hK
  exact hK
end Go.AM
namespace Go.AM
open Go
set_option maxRecDepth 20000
def NewWS (C:CallW) (f:FuncId):Prop:=∀(room:Int) S H (K:AV→St→Prop),(room < 1∨1000 < room→K (.tup [.s .nilP,.s (.int .i64 1)]) ⟨S,H⟩)→(1≤room→room≤1000→WhX (H ++ [.map [] 0,.cells (wlc room 0 H.length)]) (H.length + 1) H.length room 0 []→K (.tup [.ptr (.heap (H.length + 1)) 0,.s (.int .i64 0)]) ⟨S,H ++ [.map [] 0,.cells (wlc room 0 H.length)]⟩)→C (.fn f) [.s (.int .i64 room)] ⟨S,H⟩ K
theorem newW {H:List HObj} {room:Int} (h1:1≤room) (h2:room≤1000):WhX (H ++ [.map [] 0,.cells (wlc room 0 H.length)]) (H.length + 1) H.length room 0 [] :=
  ⟨by simp,⟨[],0,by simp,⟨rfl,.nil,fun e h=>by cases h⟩⟩,.nil,by simp; omega,h2,by omega⟩
theorem wheel_New_spec {C:CallW} (P:Program):∀(room:Int) S H (K:AV→St→Prop),(room < 1∨1000 < room→K (.tup [.s .nilP,.s (.int .i64 1)]) ⟨S,H⟩)→(1≤room→room≤1000→WhX (H ++ [.map [] 0,.cells (wlc room 0 H.length)]) (H.length + 1) H.length room 0 []→K (.tup [.ptr (.heap (H.length + 1)) 0,.s (.int .i64 0)]) ⟨S,H ++ [.map [] 0,.cells (wlc room 0 H.length)]⟩)→runL C P Cz3d [.s (.int .i64 room)] ⟨S,H⟩ K:=by
  intro room S H K h1 h2
  by_cases a:room < 1
  · simp only [Cz3d,A_,simprocAttr,ne_eq,Uz53.1,a]
    exact h1 (.inl a)
  by_cases b:1000 < room
  · simp only [Cz3d,A_,simprocAttr,ne_eq,Uz53.1,a,b]
    exact h1 (.inr b)
  · have:=h2 (by omega) (by omega) (newW (by omega) (by omega))
    simp only [Cz3d,A_,simprocAttr,ne_eq,Uz53.1,a,b]
    exact this
def setW (room now:Int) (l:List (Int×Int)) (id at_:Int):Int×List (Int×Int):=if at_≤now then (10,l) else if hasW l id=false∧room≤(l.length:Int) then (6,l) else (0,putB Prod.fst l (id,at_))
def SetWS (C:CallW) (f:FuncId):Prop:=∀(h hm:Nat) (room now:Int) (l:List (Int×Int)) (id at_:Int) S H (K:AV→St→Prop),WhX H h hm room now l→(∀H',Ext H H' h hm→WhX H' h hm room now (setW room now l id at_).2→K (.s (.int .i64 (setW room now l id at_).1)) ⟨S,H'⟩)→C (.fn f) [.ptr (.heap h) 0,.s (.int .i64 id),.s (.int .i64 at_)] ⟨S,H⟩ K
theorem putB_len {l:List (Int×Int)} {x:Int×Int}:(putB Prod.fst l x).length=if hasW l x.1 then l.length else l.length + 1:=by
  unfold putB hasW
  cases getB Prod.fst l x.1 <;> simp
theorem putB_nd {l:List (Int×Int)} {x:Int×Int} (h:(l.map Prod.fst).Nodup):((putB Prod.fst l x).map Prod.fst).Nodup:=by
  unfold putB
  cases hg:getB Prod.fst l x.1 with
  | none =>
    have:=getB_none hg
    rw [List.map_append,List.nodup_append]
    exact ⟨h,by simp,fun a ha b hb e=>by
      obtain ⟨y,hy,rfl⟩:=List.mem_map.1 ha
      have hb:b=x.1:=by simpa using hb
      exact this y hy (e.trans hb)⟩
  | some y =>
    have:(l.map fun y=>if y.1=x.1 then x else y).map Prod.fst=l.map Prod.fst:=by
      rw [List.map_map]
      refine List.map_congr_left fun z _ => ?_
      dsimp only [Function.comp]
      split
      · rename_i e; exact e.symm
      · rfl
    dsimp only
    rw [this]; exact h
set_option maxHeartbeats 4000000 in
theorem wheel_Set_spec {C:CallW} (P:Program):∀(h hm:Nat) (room now:Int) (l:List (Int×Int)) (id at_:Int) S H (K:AV→St→Prop),WhX H h hm room now l→(∀H',Ext H H' h hm→WhX H' h hm room now (setW room now l id at_).2→K (.s (.int .i64 (setW room now l id at_).1)) ⟨S,H'⟩)→runL C P Cz2a [.ptr (.heap h) 0,.s (.int .i64 id),.s (.int .i64 at_)] ⟨S,H⟩ K:=by
  intro h hm room now l id at_ S H K t hK
  have a0:=t.at0
  unfold wlc at a0
  have lk:=fun S'=>t.look2 (S:=S') id
  have ll:=fun S'=>t.lenm (S:=S')
  by_cases h1:at_≤now
  · have e:setW room now l id at_=(10,l):=if_pos h1
    rw [e] at hK
    simp only [Cz2a,A_,simprocAttr,ne_eq,Uz2q.1,CHK_,Nat.reduceBEq,a0,lk,h1]
    exact hK H .refl t
  obtain ⟨es,c,a1,g⟩:=t.atm
  obtain ⟨es',c2,u,g'⟩:=g.upd keyK_int (x:=(id,at_)) a1 t.nd rfl
  have u:∀S',updateL (.one (.int .i64)) (.map hm) (.s (.int .i64 id)) (.s (.int .i64 at_)) ⟨S',H⟩=some ⟨S',H.set hm (.map es' c2)⟩:=u
  have go:¬(hasW l id=false∧room≤(l.length:Int))→setW room now l id at_=(0,putB Prod.fst l (id,at_))∧WhX (H.set hm (.map es' c2)) h hm room now (putB Prod.fst l (id,at_)):=by
    intro q
    refine ⟨by unfold setW; rw [if_neg h1,if_neg q],t.setm g' (putB_nd t.nd) ?_⟩
    rw [putB_len]
    split
    · exact t.len
    · rename_i q2
      have:¬(room≤(l.length:Int)):=fun q3=>q ⟨by simpa using q2,q3⟩
      omega
  cases hh:hasW l id with
  | true =>
    obtain ⟨e,t2⟩:=go (by rw [hh]; simp)
    rw [hh] at lk
    rw [e] at hK
    simp only [Cz2a,A_,simprocAttr,ne_eq,Uz2q.1,CHK_,Nat.reduceBEq,a0,lk,h1,u]
    exact hK _ .set2 t2
  | false =>
    rw [hh] at lk
    by_cases h2:room≤(l.length:Int)
    · have e:setW room now l id at_=(6,l):=by unfold setW; rw [if_neg h1,if_pos ⟨hh,h2⟩]
      rw [e] at hK
      simp only [Cz2a,A_,simprocAttr,ne_eq,Uz2q.1,CHK_,Nat.reduceBEq,a0,lk,ll,h1,h2]
      exact hK H .refl t
    · obtain ⟨e,t2⟩:=go (fun q=>h2 q.2)
      rw [e] at hK
      simp only [Cz2a,A_,simprocAttr,ne_eq,Uz2q.1,CHK_,Nat.reduceBEq,a0,lk,ll,h1,h2,u]
      exact hK _ .set2 t2
def delW (l:List (Int×Int)) (id:Int):List (Int×Int):=l.filter fun x=>decide (x.1≠id)
theorem delW_nd {l:List (Int×Int)} {id:Int} (h:(l.map Prod.fst).Nodup):((delW l id).map Prod.fst).Nodup:=h.sublist (List.Sublist.map _ List.filter_sublist)
theorem delW_len {l:List (Int×Int)} {id:Int}:(delW l id).length≤l.length:=List.length_filter_le _ _
theorem WhX.del {H:List HObj} {h hm:Nat} {room now:Int} {l:List (Int×Int)} (t:WhX H h hm room now l) (id:Int):∃es c,(∀S:List (List AV),deleteL (.one (.int .i64)) (.map hm) (.s (.int .i64 id)) ⟨S,H⟩=some ⟨S,H.set hm (.map es c)⟩)∧WhX (H.set hm (.map es c)) h hm room now (delW l id):=by
  obtain ⟨es,c,a1,g⟩:=t.atm
  obtain ⟨es',hd,g'⟩:=g.del keyK_int (k:=id) a1 t.nd
  refine ⟨es',c,hd,t.setm g' (delW_nd t.nd) ?_⟩
  have:=delW_len (l:=l) (id:=id)
  have:=t.len
  show ((delW l id).length:Int)≤room
  omega
def CancS (C:CallW) (f:FuncId):Prop:=∀(h hm:Nat) (room now:Int) (l:List (Int×Int)) (id:Int) S H (K:AV→St→Prop),WhX H h hm room now l→(∀H',Ext H H' h hm→WhX H' h hm room now (delW l id)→K (.s (.bool (hasW l id))) ⟨S,H'⟩)→C (.fn f) [.ptr (.heap h) 0,.s (.int .i64 id)] ⟨S,H⟩ K
theorem wheel_Cancel_spec {C:CallW} (P:Program):∀(h hm:Nat) (room now:Int) (l:List (Int×Int)) (id:Int) S H (K:AV→St→Prop),WhX H h hm room now l→(∀H',Ext H H' h hm→WhX H' h hm room now (delW l id)→K (.s (.bool (hasW l id))) ⟨S,H'⟩)→runL C P Cz2r [.ptr (.heap h) 0,.s (.int .i64 id)] ⟨S,H⟩ K:=by
  intro h hm room now l id S H K t hK
  have a0:=t.at0
  unfold wlc at a0
  have lk:=fun S'=>t.look2 (S:=S') id
  obtain ⟨es,c,d,t2⟩:=t.del id
  simp only [Cz2r,A_,simprocAttr,ne_eq,Uz4k.1,CHK_,Nat.reduceBEq,a0,lk,d]
  exact hK _ .set2 t2
def WLenS (C:CallW) (f:FuncId):Prop:=∀(h hm:Nat) (room now:Int) (l:List (Int×Int)) S H (K:AV→St→Prop),WhX H h hm room now l→K (.s (.int .i64 (l.length:Nat))) ⟨S,H⟩→C (.fn f) [.ptr (.heap h) 0] ⟨S,H⟩ K
theorem wheel_Len_spec {C:CallW} (P:Program):∀(h hm:Nat) (room now:Int) (l:List (Int×Int)) S H (K:AV→St→Prop),WhX H h hm room now l→K (.s (.int .i64 (l.length:Nat))) ⟨S,H⟩→runL C P Cz36 [.ptr (.heap h) 0] ⟨S,H⟩ K:=by
  intro h hm room now l S H K t hK
  have a0:=t.at0
  unfold wlc at a0
  have ll:=fun S'=>t.lenm (S:=S')
  simp only [Cz36,A_,simprocAttr,ne_eq,Uz5b.1,CHK_,Nat.reduceBEq,a0,ll]
  exact hK
def WNowS (C:CallW) (f:FuncId):Prop:=∀(h hm:Nat) (room now:Int) (l:List (Int×Int)) S H (K:AV→St→Prop),WhX H h hm room now l→K (.s (.int .i64 now)) ⟨S,H⟩→C (.fn f) [.ptr (.heap h) 0] ⟨S,H⟩ K
theorem wheel_Now_spec {C:CallW} (P:Program):∀(h hm:Nat) (room now:Int) (l:List (Int×Int)) S H (K:AV→St→Prop),WhX H h hm room now l→K (.s (.int .i64 now)) ⟨S,H⟩→runL C P Cz37 [.ptr (.heap h) 0] ⟨S,H⟩ K:=by
  intro h hm room now l S H K t hK
  have a0:=t.at0
  unfold wlc at a0
  simp only [Cz37,A_,simprocAttr,ne_eq,Uz5c.1,CHK_,Nat.reduceBEq,a0]
  exact hK
end Go.AM
