import Derived.Test.YtpbpnojhflfkfaaM10
set_option linter.unusedSimpArgs false
set_option linter.unusedVariables false
namespace Go.AM
open Go
open AV renaming undef → uu
set_option maxRecDepth 20000
def cntK (k:Key):List Key→Nat
  | []=>0
  | p :: l=>(if cmpK p k≤0 then 1 else 0) + cntK k l
def ofK (pts:List Key) (k:Key):Int:=if goodK k then (cntK k pts:Int) else -1
theorem cnt_drop {k:Key} {l:List Key} {i:Nat} (h:i < l.length):cntK k (l.drop i)=(if cmpK l[i] k≤0 then 1 else 0) + cntK k (l.drop (i + 1)):=by
  rw [List.drop_eq_getElem_cons h]; rfl
set_option maxHeartbeats 2000000 in
theorem Of_spec {C:CallW} (hC:LeC C C) (P:Program) {f1 f2:FuncId} (hg:BoolK goodK C f1) (hc:KCmp C f2):∀(l:List Key) (k:Key) (h:Nat) S H (K:AV→St→Prop),H[h]? = some (tabA l)→l.length < 9223372036854775807→K (.i (ofK l k)) ⟨S,H⟩→runL C P (Cz23 f1 f2) [.ptr (.heap h) 0,.agg (bs k.b)] ⟨S,H⟩ K:=by
  intro l k h S H K hh hl hK
  unfold tabA lstK at hh
  simp only [Cz23,RUN_,(u_C_route_Table_Of_k1 _ _).1,(u_C_route_Table_Of_k2 _ _).1,(u_C_route_Table_Of_k3 _ _).1,(u_C_route_Table_Of_k4 _ _).1,(u_C_route_Table_Of_k5 _ _).1,(u_C_route_Table_Of_k6 _ _).1,(u_C_route_Table_Of_k7 _ _).1,FR_,simprocAttr,if_true,if_false,ite_true,ite_false,ne_eq,eq_self,OPK_,KEY_]
  refine hg _ _ _ _ ?_
  by_cases hgk:goodK k=true
  · simp only [RUN_,(u_C_route_Table_Of_k1 _ _).1,(u_C_route_Table_Of_k2 _ _).1,(u_C_route_Table_Of_k3 _ _).1,(u_C_route_Table_Of_k4 _ _).1,(u_C_route_Table_Of_k5 _ _).1,(u_C_route_Table_Of_k6 _ _).1,(u_C_route_Table_Of_k7 _ _).1,FR_,simprocAttr,if_true,if_false,ite_true,ite_false,ne_eq,eq_self,OPK_,KEY_,hgk,hh]
    have hK:K (.i (cntK k l:Nat)) ⟨S,H⟩:=by simpa [ofK,hgk] using hK
    refine loop_rule hC (α:=Nat×Nat) (fun a=>l.length - a.1) (fun a=>[uu,uu,uu,.ptr (.stk S.length) 0,.undef,.s (.int .i64 a.2),uu,uu,uu,uu,uu,uu,uu,uu,.list .sh 16 (l.map kA),.s (.int .i64 l.length),.s (.int .i64 a.1),uu,uu,uu,uu,uu,uu,uu,uu,uu,uu,uu]) (fun _=>S ++ [bs k.b]) (fun _=>H) (fun a=>a.1≤l.length∧a.2≤a.1∧cntK k l=a.2 + cntK k (l.drop a.1)) (0,0) ⟨by simp,by simp,by simp⟩ rfl (by rw [app_take_add]; rfl) rfl (fun i hi=>by simp [AV.under,AV.under.go]) ?_
    rintro ⟨i,n⟩ ⟨hi,hn,hinv⟩ ih
    dsimp only at hi hn hinv ih ⊢
    by_cases h16:i < l.length
    · have h1:((i:Int) < (l.length:Int)):=by omega
      have hw:IntKind.i64.wrap ((i:Int) + 1)=((i + 1:Nat):Int):=by rw [wrap_i64 (by omega) (by omega)]; rfl
      have hwn:IntKind.i64.wrap ((n:Int) + 1)=((n + 1:Nat):Int):=by rw [wrap_i64 (by omega) (by omega)]; rfl
      rw [cnt_drop h16] at hinv
      simp only [RUN_,(u_C_route_Table_Of_k1 _ _).1,(u_C_route_Table_Of_k2 _ _).1,(u_C_route_Table_Of_k3 _ _).1,(u_C_route_Table_Of_k4 _ _).1,(u_C_route_Table_Of_k5 _ _).1,(u_C_route_Table_Of_k6 _ _).1,(u_C_route_Table_Of_k7 _ _).1,FR_,simprocAttr,if_true,if_false,ite_true,ite_false,ne_eq,eq_self,OPK_,KEY_,h1,h16]
      refine hc _ _ _ _ _ ?_
      by_cases hx:Lib.compareBytes (l[i]).b k.b≤0
      · rw [if_pos (show cmpK l[i] k≤0 from hx)] at hinv
        simp only [RUN_,(u_C_route_Table_Of_k1 _ _).1,(u_C_route_Table_Of_k2 _ _).1,(u_C_route_Table_Of_k3 _ _).1,(u_C_route_Table_Of_k4 _ _).1,(u_C_route_Table_Of_k5 _ _).1,(u_C_route_Table_Of_k6 _ _).1,(u_C_route_Table_Of_k7 _ _).1,FR_,simprocAttr,if_true,if_false,ite_true,ite_false,ne_eq,eq_self,OPK_,KEY_,hx,hw,hwn]
        exact ih (i + 1,n + 1) _ _ _ (by simp; omega) ⟨by simp; omega,by simp; omega,by simp; omega⟩ rfl (by rw [app_take_add]; rfl) rfl
      · rw [if_neg (show ¬cmpK l[i] k≤0 from hx)] at hinv
        simp only [RUN_,(u_C_route_Table_Of_k1 _ _).1,(u_C_route_Table_Of_k2 _ _).1,(u_C_route_Table_Of_k3 _ _).1,(u_C_route_Table_Of_k4 _ _).1,(u_C_route_Table_Of_k5 _ _).1,(u_C_route_Table_Of_k6 _ _).1,(u_C_route_Table_Of_k7 _ _).1,FR_,simprocAttr,if_true,if_false,ite_true,ite_false,ne_eq,eq_self,OPK_,KEY_,hx,hw,hwn]
        exact ih (i + 1,n) _ _ _ (by simp; omega) ⟨by simp; omega,by simp; omega,by simp; omega⟩ rfl (by rw [app_take_add]; rfl) rfl
    · have h1:¬((i:Int) < (l.length:Int)):=by omega
      rw [List.drop_of_length_le (by omega)] at hinv
      have:cntK k l=n:=hinv
      simp only [RUN_,(u_C_route_Table_Of_k1 _ _).1,(u_C_route_Table_Of_k2 _ _).1,(u_C_route_Table_Of_k3 _ _).1,(u_C_route_Table_Of_k4 _ _).1,(u_C_route_Table_Of_k5 _ _).1,(u_C_route_Table_Of_k6 _ _).1,(u_C_route_Table_Of_k7 _ _).1,FR_,simprocAttr,if_true,if_false,ite_true,ite_false,ne_eq,eq_self,OPK_,KEY_,h1]
      rw [this] at hK
      exact hK
  · have hgk':goodK k=false:=by simpa using hgk
    simp only [RUN_,(u_C_route_Table_Of_k1 _ _).1,(u_C_route_Table_Of_k2 _ _).1,(u_C_route_Table_Of_k3 _ _).1,(u_C_route_Table_Of_k4 _ _).1,(u_C_route_Table_Of_k5 _ _).1,(u_C_route_Table_Of_k6 _ _).1,(u_C_route_Table_Of_k7 _ _).1,FR_,simprocAttr,if_true,if_false,ite_true,ite_false,ne_eq,eq_self,OPK_,KEY_,hgk']
    simpa [ofK,hgk'] using hK
def okFrom:Option Key→List Key→Bool
  | _,[]=>true
  | q,p :: l=>goodK p && (match q with | none=>true | some q=>decide (cmpK q p < 0)) && okFrom (some p) l
def okPts (l:List Key):Bool:=okFrom none l
def prevK (l:List Key) (i:Nat):Option Key:=if i=0 then none else l[i - 1]?
theorem ok_drop {q:Option Key} {l:List Key} {i:Nat} (h:i < l.length):okFrom q (l.drop i)=(goodK l[i] && (match q with | none=>true | some q=>decide (cmpK q l[i] < 0)) && okFrom (some l[i]) (l.drop (i + 1))):=by
  rw [List.drop_eq_getElem_cons h]; rfl
def newA (l:List Key) (H:List HObj):AV:=if okPts l && decide (l.length < 8) then .tup [.ptr (.heap H.length) 0,.i 0] else .tup [.nilP,.i 1]
def newH (l:List Key) (H:List HObj):List HObj:=if okPts l && decide (l.length < 8) then H ++ [tabA l] else H
def CloneS (C:CallW) (f:FuncId):Prop:=∀(l:List Key) S H (K:AV→St→Prop),l.length≤1000→K (lstK l) ⟨S,H⟩→C (.fn f) [lstK l] ⟨S,H⟩ K
set_option maxHeartbeats 4000000 in
theorem New_spec {C:CallW} (hC:LeC C C) (P:Program) {f1 f2 f3:FuncId} (hg:BoolK goodK C f1) (hc:KCmp C f2) (hcl:CloneS C f3):∀(l:List Key) S H (K:AV→St→Prop),l.length≤9223372036854775807→K (newA l H) ⟨S,newH l H⟩→runL C P (Cz3e f1 f2 f3) [lstK l] ⟨S,H⟩ K:=by
  intro l S H K hl hK
  simp only [lstK,Cz3e,RUN_,(u_C_route_New_k1 _ _ _).1,(u_C_route_New_k2 _ _ _).1,(u_C_route_New_k3 _ _ _).1,(u_C_route_New_k4 _ _ _).1,(u_C_route_New_k5 _ _ _).1,(u_C_route_New_k6 _ _ _).1,(u_C_route_New_k7 _ _ _).1,(u_C_route_New_k8 _ _ _).1,(u_C_route_New_k9 _ _ _).1,FR_,simprocAttr,if_true,if_false,ite_true,ite_false,ne_eq,eq_self,OPK_,KEY_]
  have bad:okPts l=false→K (.tup [.nilP,.i 1]) ⟨S,H⟩:=fun h=>by
    unfold newA newH at hK
    rw [h] at hK
    simpa using hK
  refine loop_rule hC (α:=Nat) (fun a=>l.length - a) (fun a=>[.list .sh 16 (l.map kA),uu,uu,uu,uu,uu,.list .sh 16 (l.map kA),.s (.int .i64 l.length),.s (.int .i64 a),uu,uu,uu,uu,uu,uu,uu,uu,uu,uu,uu,uu,uu,uu,uu,uu,uu,uu,uu,uu,uu,uu,uu,uu,uu,uu,uu,uu,uu]) (fun _=>S) (fun _=>H) (fun i=>i≤l.length∧okPts l=okFrom (prevK l i) (l.drop i)) 0 ⟨by simp,rfl⟩ rfl (by simp) rfl (fun i hi=>by simp [AV.under,AV.under.go]) ?_
  rintro i ⟨hi,hinv⟩ ih
  by_cases h16:i < l.length
  · have h1:((i:Int) < (l.length:Int)):=by omega
    have hw:IntKind.i64.wrap ((i:Int) + 1)=((i + 1:Nat):Int):=by rw [wrap_i64 (by omega) (by omega)]; rfl
    rw [ok_drop h16] at hinv
    simp only [RUN_,(u_C_route_New_k1 _ _ _).1,(u_C_route_New_k2 _ _ _).1,(u_C_route_New_k3 _ _ _).1,(u_C_route_New_k4 _ _ _).1,(u_C_route_New_k5 _ _ _).1,(u_C_route_New_k6 _ _ _).1,(u_C_route_New_k7 _ _ _).1,(u_C_route_New_k8 _ _ _).1,(u_C_route_New_k9 _ _ _).1,FR_,simprocAttr,if_true,if_false,ite_true,ite_false,ne_eq,eq_self,OPK_,KEY_,h1,h16]
    refine hg _ _ _ _ ?_
    cases hgk:goodK l[i] with
    | false =>
      rw [hgk] at hinv
      simp only [RUN_,(u_C_route_New_k1 _ _ _).1,(u_C_route_New_k2 _ _ _).1,(u_C_route_New_k3 _ _ _).1,(u_C_route_New_k4 _ _ _).1,(u_C_route_New_k5 _ _ _).1,(u_C_route_New_k6 _ _ _).1,(u_C_route_New_k7 _ _ _).1,(u_C_route_New_k8 _ _ _).1,(u_C_route_New_k9 _ _ _).1,FR_,simprocAttr,if_true,if_false,ite_true,ite_false,ne_eq,eq_self,OPK_,KEY_]
      exact bad (by rw [hinv]; rfl)
    | true =>
      rw [hgk,Bool.true_and] at hinv
      by_cases h0:i=0
      · have h0':¬((0:Int) < (i:Int)):=by omega
        rw [show prevK l i=none from if_pos h0,Bool.true_and] at hinv
        simp only [RUN_,(u_C_route_New_k1 _ _ _).1,(u_C_route_New_k2 _ _ _).1,(u_C_route_New_k3 _ _ _).1,(u_C_route_New_k4 _ _ _).1,(u_C_route_New_k5 _ _ _).1,(u_C_route_New_k6 _ _ _).1,(u_C_route_New_k7 _ _ _).1,(u_C_route_New_k8 _ _ _).1,(u_C_route_New_k9 _ _ _).1,FR_,simprocAttr,if_true,if_false,ite_true,ite_false,ne_eq,eq_self,OPK_,KEY_,h0',hw]
        refine ih (i + 1) _ _ _ (by omega) ⟨by omega,?_⟩ rfl (by rw [app_take]) rfl
        rw [hinv]; simp [prevK,h16]
      · have h0':((0:Int) < (i:Int)):=by omega
        have hwp:IntKind.i64.wrap ((i:Int) - 1)=((i - 1:Nat):Int):=by rw [wrap_i64 (by omega) (by omega)]; omega
        have h17:i - 1 < l.length:=by omega
        rw [show prevK l i=some l[i - 1] from (if_neg h0).trans (List.getElem?_eq_getElem h17)] at hinv
        dsimp only at hinv
        simp only [RUN_,(u_C_route_New_k1 _ _ _).1,(u_C_route_New_k2 _ _ _).1,(u_C_route_New_k3 _ _ _).1,(u_C_route_New_k4 _ _ _).1,(u_C_route_New_k5 _ _ _).1,(u_C_route_New_k6 _ _ _).1,(u_C_route_New_k7 _ _ _).1,(u_C_route_New_k8 _ _ _).1,(u_C_route_New_k9 _ _ _).1,FR_,simprocAttr,if_true,if_false,ite_true,ite_false,ne_eq,eq_self,OPK_,KEY_,h0',hw,hwp,h17]
        refine hc _ _ _ _ _ ?_
        by_cases hx:(0:Int)≤Lib.compareBytes (l[i - 1]).b (l[i]).b
        · simp only [RUN_,(u_C_route_New_k1 _ _ _).1,(u_C_route_New_k2 _ _ _).1,(u_C_route_New_k3 _ _ _).1,(u_C_route_New_k4 _ _ _).1,(u_C_route_New_k5 _ _ _).1,(u_C_route_New_k6 _ _ _).1,(u_C_route_New_k7 _ _ _).1,(u_C_route_New_k8 _ _ _).1,(u_C_route_New_k9 _ _ _).1,FR_,simprocAttr,if_true,if_false,ite_true,ite_false,ne_eq,eq_self,OPK_,KEY_,hx]
          refine bad ?_
          rw [hinv,decide_eq_false (by unfold cmpK; omega)]; rfl
        · simp only [RUN_,(u_C_route_New_k1 _ _ _).1,(u_C_route_New_k2 _ _ _).1,(u_C_route_New_k3 _ _ _).1,(u_C_route_New_k4 _ _ _).1,(u_C_route_New_k5 _ _ _).1,(u_C_route_New_k6 _ _ _).1,(u_C_route_New_k7 _ _ _).1,(u_C_route_New_k8 _ _ _).1,(u_C_route_New_k9 _ _ _).1,FR_,simprocAttr,if_true,if_false,ite_true,ite_false,ne_eq,eq_self,OPK_,KEY_,hx,hw]
          refine ih (i + 1) _ _ _ (by omega) ⟨by omega,?_⟩ rfl (by rw [app_take]) rfl
          rw [hinv,decide_eq_true (show cmpK l[i - 1] l[i] < 0 by unfold cmpK; omega)]; simp [prevK,h16]
  · have h1:¬((i:Int) < (l.length:Int)):=by omega
    rw [List.drop_of_length_le (by omega)] at hinv
    have hok:okPts l=true:=hinv
    by_cases h8:l.length < 8
    · have h8':¬((8:Int)≤(l.length:Int)):=by omega
      simp only [RUN_,(u_C_route_New_k1 _ _ _).1,(u_C_route_New_k2 _ _ _).1,(u_C_route_New_k3 _ _ _).1,(u_C_route_New_k4 _ _ _).1,(u_C_route_New_k5 _ _ _).1,(u_C_route_New_k6 _ _ _).1,(u_C_route_New_k7 _ _ _).1,(u_C_route_New_k8 _ _ _).1,(u_C_route_New_k9 _ _ _).1,FR_,simprocAttr,if_true,if_false,ite_true,ite_false,ne_eq,eq_self,OPK_,KEY_,h1,h8']
      refine hcl l _ _ _ (by omega) ?_
      unfold newA newH at hK
      rw [hok,decide_eq_true h8] at hK
      simp only [RUN_,(u_C_route_New_k1 _ _ _).1,(u_C_route_New_k2 _ _ _).1,(u_C_route_New_k3 _ _ _).1,(u_C_route_New_k4 _ _ _).1,(u_C_route_New_k5 _ _ _).1,(u_C_route_New_k6 _ _ _).1,(u_C_route_New_k7 _ _ _).1,(u_C_route_New_k8 _ _ _).1,(u_C_route_New_k9 _ _ _).1,FR_,simprocAttr,if_true,if_false,ite_true,ite_false,ne_eq,eq_self,OPK_,KEY_,lstK,fillL]
      exact hK
    · have h8':((8:Int)≤(l.length:Int)):=by omega
      simp only [RUN_,(u_C_route_New_k1 _ _ _).1,(u_C_route_New_k2 _ _ _).1,(u_C_route_New_k3 _ _ _).1,(u_C_route_New_k4 _ _ _).1,(u_C_route_New_k5 _ _ _).1,(u_C_route_New_k6 _ _ _).1,(u_C_route_New_k7 _ _ _).1,(u_C_route_New_k8 _ _ _).1,(u_C_route_New_k9 _ _ _).1,FR_,simprocAttr,if_true,if_false,ite_true,ite_false,ne_eq,eq_self,OPK_,KEY_,h1,h8']
      unfold newA newH at hK
      rw [decide_eq_false h8] at hK
      simpa using hK
end Go.AM
namespace Go.AM
open Go
open AV renaming undef → uu
set_option maxRecDepth 20000
theorem pad_set {s:List UInt8} {i:Nat} (h:i < s.length) (hs:s.length≤16):(bs (padB (s.take i))).set i (u8 s[i])=bs (padB (s.take (i + 1))):=by
  have e:∀(t:List UInt8),t.length≤16→padB t=t ++ List.replicate (16 - t.length) 0:=fun t ht=>by unfold padB; rw [List.take_of_length_le ht]
  rw [e _ (by simp; omega),e _ (by simp; omega)]
  have h1:(s.take i).length=i:=by simp; omega
  have h2:(s.take (i + 1)).length=i + 1:=by simp; omega
  rw [h1,h2,show 16 - i=(16 - (i + 1)) + 1 by omega,List.replicate_succ]
  simp only [bs,List.map_append,List.map_cons]
  rw [List.set_append_right _ _ (by rw [List.length_map,h1]; exact Nat.le_refl _)]
  simp only [List.length_map,h1,Nat.sub_self,List.set_cons_zero]
  rw [List.take_succ_eq_append_getElem h]
  simp only [List.map_append,List.map_cons,List.map_nil,List.append_assoc,List.cons_append,List.nil_append]
def OfR (C:CallW) (f:FuncId):Prop:=∀(s:List UInt8) (S:List (List AV)) (H:List HObj) (K:AV→St→Prop),K (.tup [.agg (bs (keyOf s).1.b),.bool (decide ((keyOf s).2=0))]) ⟨S,H⟩→C (.fn f) [.s (.str s)] ⟨S,H⟩ K
set_option maxHeartbeats 2000000 in
theorem ref10_Of_spec {C:CallW} (hC:LeC C C) (P:Program):∀(s:List UInt8) (S:List (List AV)) (H:List HObj) (K:AV→St→Prop),K (.tup [.agg (bs (keyOf s).1.b),.bool (decide ((keyOf s).2=0))]) ⟨S,H⟩→runL C P Cz14 [.s (.str s)] ⟨S,H⟩ K:=by
  intro s S H K hK
  have key0l:(bs key0.b).length=16:=rfl
  have bad:badT s→K (.tup [.agg (bs key0.b),.bool false]) ⟨S,H⟩:=fun h=>by
    rw [show keyOf s=(key0,1) from if_pos h] at hK; exact hK
  by_cases h0:s.length < 1
  · have h0':((s.length:Int) < 1):=by omega
    simp only [Cz14,RUN_,u_C_hourglassref10_Of_k1.1,u_C_hourglassref10_Of_k2.1,u_C_hourglassref10_Of_k3.1,u_C_hourglassref10_Of_k4.1,u_C_hourglassref10_Of_k5.1,u_C_hourglassref10_Of_k6.1,u_C_hourglassref10_Of_k7.1,u_C_hourglassref10_Of_k8.1,u_C_hourglassref10_Of_k9.1,u_C_hourglassref10_Of_k10.1,FR_,simprocAttr,if_true,if_false,ite_true,ite_false,ne_eq,eq_self,OPK_,KEY_,h0']
    exact bad (.inl (List.length_eq_zero_iff.1 (by omega)))
  · have h0':¬((s.length:Int) < 1):=by omega
    by_cases h1:16 < s.length
    · have h1':(16:Int) < (s.length:Int):=by omega
      simp only [Cz14,RUN_,u_C_hourglassref10_Of_k1.1,u_C_hourglassref10_Of_k2.1,u_C_hourglassref10_Of_k3.1,u_C_hourglassref10_Of_k4.1,u_C_hourglassref10_Of_k5.1,u_C_hourglassref10_Of_k6.1,u_C_hourglassref10_Of_k7.1,u_C_hourglassref10_Of_k8.1,u_C_hourglassref10_Of_k9.1,u_C_hourglassref10_Of_k10.1,FR_,simprocAttr,if_true,if_false,ite_true,ite_false,ne_eq,eq_self,OPK_,KEY_,h0',h1']
      exact bad (.inr (.inl h1))
    · have h1':¬((16:Int) < (s.length:Int)):=by omega
      simp only [Cz14,RUN_,u_C_hourglassref10_Of_k1.1,u_C_hourglassref10_Of_k2.1,u_C_hourglassref10_Of_k3.1,u_C_hourglassref10_Of_k4.1,u_C_hourglassref10_Of_k5.1,u_C_hourglassref10_Of_k6.1,u_C_hourglassref10_Of_k7.1,u_C_hourglassref10_Of_k8.1,u_C_hourglassref10_Of_k9.1,u_C_hourglassref10_Of_k10.1,FR_,simprocAttr,if_true,if_false,ite_true,ite_false,ne_eq,eq_self,OPK_,KEY_,h0',h1']
      refine loop_rule hC (α:=Nat) (fun a=>s.length - a) (fun a=>[.s (.str s),.undef,.ptr (.stk S.length) 0,.undef,.ptr (.stk (S.length + 1)) 0,.s (.int .i64 a),uu,uu,uu,uu,uu,uu,uu,uu,uu,uu,uu,uu,uu,uu,uu,uu,uu,uu,uu,uu,uu,uu,uu,uu,uu,uu,uu]) (fun a=>S ++ [bs key0.b,bs (padB (s.take a))]) (fun _=>H) (fun i=>i≤s.length∧∀j,(hj:j < i)→(hj':j < s.length)→s[j]≠0) 0 ⟨by simp,fun j hj=>by omega⟩ rfl (by rw [app_take_add]; rfl) rfl (fun i hi=>by simp [AV.under,AV.under.go]) ?_
      rintro i ⟨hi,hall⟩ ih
      have hpl:∀t,(bs (padB t)).length=16:=fun t=>by rw [bs_length]; exact (padK t).h
      by_cases h16:i < s.length
      · have hlt:((i:Int) < (s.length:Int)):=by omega
        have h16':((i:Int) < 16):=by omega
        have hge:(0:Int)≤(i:Int):=by omega
        have hw:=wrap_succ (i:=i) (by omega)
        have hg:s.getD i 0=s[i]:=by simp [List.getD,h16]
        by_cases hz:s[i]=0
        · simp only [RUN_,u_C_hourglassref10_Of_k1.1,u_C_hourglassref10_Of_k2.1,u_C_hourglassref10_Of_k3.1,u_C_hourglassref10_Of_k4.1,u_C_hourglassref10_Of_k5.1,u_C_hourglassref10_Of_k6.1,u_C_hourglassref10_Of_k7.1,u_C_hourglassref10_Of_k8.1,u_C_hourglassref10_Of_k9.1,u_C_hourglassref10_Of_k10.1,FR_,simprocAttr,if_true,if_false,ite_true,ite_false,ne_eq,eq_self,OPK_,KEY_,hlt,hge,hg,hz,UInt8.toNat_zero,hpl]
          exact bad (.inr (.inr (hz▸List.getElem_mem h16)))
        · have hz':¬(((s[i]).toNat:Int)=0):=fun e=>hz (u8_zero.1 e)
          have hps:=pad_set h16 (by omega)
          have hi16:i < 16:=by omega
          unfold u8 at hps
          simp only [RUN_,u_C_hourglassref10_Of_k1.1,u_C_hourglassref10_Of_k2.1,u_C_hourglassref10_Of_k3.1,u_C_hourglassref10_Of_k4.1,u_C_hourglassref10_Of_k5.1,u_C_hourglassref10_Of_k6.1,u_C_hourglassref10_Of_k7.1,u_C_hourglassref10_Of_k8.1,u_C_hourglassref10_Of_k9.1,u_C_hourglassref10_Of_k10.1,FR_,simprocAttr,if_true,if_false,ite_true,ite_false,ne_eq,eq_self,OPK_,KEY_,hlt,hge,hg,hz',hpl,indexAddrL,h16',hw,Nat.mul_one,hi16,hps]
          exact ih (i + 1) _ _ _ (by omega) ⟨by omega,fun j hj hj'=>by
            rcases Nat.lt_or_ge j i with h | h
            · exact hall j h hj'
            · have:j=i:=by omega
              subst this; exact hz⟩ rfl (app_take_add _ _ _) rfl
      · have hlt:¬((i:Int) < (s.length:Int)):=by omega
        have hnb:¬badT s:=by
          rintro (h | h | h)
          · rw [h] at h0; exact h0 (by simp)
          · exact h1 h
          · obtain ⟨j,hj,e⟩:=List.getElem_of_mem h
            exact hall j (by omega) hj e
        have hp:padB (s.take i)=padB s:=by rw [List.take_of_length_le (by omega)]
        rw [show keyOf s=(padK s,0) from if_neg hnb] at hK
        have e2:(bs (padB s)).take 16=bs (padB s):=List.take_of_length_le (by rw [hpl]; omega)
        simp only [RUN_,u_C_hourglassref10_Of_k1.1,u_C_hourglassref10_Of_k2.1,u_C_hourglassref10_Of_k3.1,u_C_hourglassref10_Of_k4.1,u_C_hourglassref10_Of_k5.1,u_C_hourglassref10_Of_k6.1,u_C_hourglassref10_Of_k7.1,u_C_hourglassref10_Of_k8.1,u_C_hourglassref10_Of_k9.1,u_C_hourglassref10_Of_k10.1,FR_,simprocAttr,if_true,if_false,ite_true,ite_false,ne_eq,eq_self,OPK_,KEY_,hlt,hp,hpl,e2]
        exact hK
def kS (C:CallW) (f:FuncId):Prop:=∀(s:List UInt8) (S:List (List AV)) (H:List HObj) (K:AV→St→Prop),K (.agg (bs (keyOf s).1.b)) ⟨S,H⟩→C (.fn f) [.s (.str s)] ⟨S,H⟩ K
set_option maxHeartbeats 1000000 in
theorem law_k_spec {C:CallW} (hC:LeC C C) (P:Program) {f:FuncId} (hf:OfR C f):∀(s:List UInt8) (S:List (List AV)) (H:List HObj) (K:AV→St→Prop),K (.agg (bs (keyOf s).1.b)) ⟨S,H⟩→runL C P (Cz1v f) [.s (.str s)] ⟨S,H⟩ K:=by
  intro s S H K hK
  simp only [Cz1v,RUN_,(u_C_hourglasslaw17_k_k1 _).1,FR_,simprocAttr,if_true,if_false,ite_true,ite_false,ne_eq,eq_self,OPK_,KEY_]
  refine hf _ _ _ _ ?_
  simp only [RUN_,(u_C_hourglasslaw17_k_k1 _).1,FR_,simprocAttr,if_true,if_false,ite_true,ite_false,ne_eq,eq_self,OPK_,KEY_]
  exact hK
end Go.AM
namespace Go.AM
open Go
set_option maxRecDepth 20000
def NewS (C:CallW) (f:FuncId):Prop:=∀(l:List Key) S H (K:AV→St→Prop),l.length≤9223372036854775807→K (newA l H) ⟨S,newH l H⟩→C (.fn f) [lstK l] ⟨S,H⟩ K
def TOfS (C:CallW) (f:FuncId):Prop:=∀(l:List Key) (k:Key) (h:Nat) S H (K:AV→St→Prop),H[h]? = some (tabA l)→l.length < 9223372036854775807→K (.i (ofK l k)) ⟨S,H⟩→C (.fn f) [.ptr (.heap h) 0,.agg (bs k.b)] ⟨S,H⟩ K
def TNodesS (C:CallW) (f:FuncId):Prop:=∀(l:List Key) (h:Nat) S H (K:AV→St→Prop),H[h]? = some (tabA l)→l.length < 9223372036854775807→K (.i ((l.length + 1:Nat):Int)) ⟨S,H⟩→C (.fn f) [.ptr (.heap h) 0] ⟨S,H⟩ K
theorem app_getH (H:List HObj) (o:HObj):(H ++ [o])[H.length]? = some o:=by simp
end Go.AM
namespace Go.AM
open Go
set_option maxRecDepth 20000
def lstI (l:List Nat):AV := .list .sh 1 (l.map fun (n:Nat)=>AV.i n)
theorem under_slI {n:Nat} {l:List Nat}:AV.under n (slI l)=true:=by
  unfold slI; split <;> rfl
theorem app_slI {e:ET} {l:List Nat} {n:Nat} {σ:St} (h1:e.c=1) (h2:e.bytes=8) (hl:l.length≤1000000):appendL e false (slI l) (.list .full 1 [.i n]) σ=some (slI (l ++ [n]),σ):=by
  have he:elemsL e (.list .full 1 [.i n]) σ=some [.i n]:=by simp [elemsL,h1]
  unfold appendL
  simp only [srcL,AV.isSlice,if_true,he,Option.bind_some,AV.under,AV.under.go,Bool.and_self]
  unfold slI
  by_cases h:l=[]
  · subst h
    simp [appItems,h1,h2]
  · rw [if_neg h]
    have:2 * (l.length + 1) * 8≤2 ^ 48:=by omega
    simp only [appItems,h1,ne_eq,not_true_eq_false,if_false,List.isEmpty_cons,Bool.false_eq_true,h2,List.length_map,List.length_cons,List.length_nil,Nat.zero_add,this,if_true]
    simp
def aboveK (l:List Key) (a:Key) (i:Nat):Bool:=match l[i]? with
  | some p=>decide (0 < cmpK p a)
  | none=>true
def belowK (l:List Key) (b:Key) (i:Nat):Bool:=decide (i=0) || decide (b=key0) || (match l[i - 1]? with
  | some p=>decide (cmpK p b < 0)
  | none=>true)
def covUp (l:List Key) (a b:Key) (n:Nat):List Nat:=(List.range n).filter fun i=>aboveK l a i && belowK l b i
def coverK (l:List Key) (a b:Key):List Nat:=if b≠key0∧cmpK b a≤0 then [] else covUp l a b (l.length + 1)
end Go.AM
namespace Go.AM
open Go
set_option maxRecDepth 20000
def Steps (c:List Nat):Prop:=∀i,0 < i→(h:i < c.length)→c[i]=c[i - 1] + 1
structure WholeP (pts:List Key) (a b fr to:Key):Prop where
  good:∀k,goodR k=true→goodK k=true
  lt:cntK a pts≤pts.length
  mono:cmpK a b≤0→cntK a pts≤cntK b pts
  cons:Steps (coverK pts fr to)
  small:∀x∈coverK pts fr to,x≤pts.length
  mem:withinK a fr to=true→cntK a pts∈coverK pts fr to
end Go.AM
namespace Go.AM
open Go
theorem cb_flip:∀(x y:List UInt8),Lib.compareBytes y x = - Lib.compareBytes x y
  | [],[]=>rfl
  | [],_ :: _=>rfl
  | _ :: _,[]=>rfl
  | a :: x,b :: y=>by
    simp only [Lib.compareBytes]
    by_cases h1:a < b
    · have h2:¬b < a:=fun h=>absurd (UInt8.lt_trans h1 h) (UInt8.lt_irrefl _)
      simp [h1,h2]
    · by_cases h2:b < a
      · simp [h1,h2]
      · simp only [h1,h2,if_false]; exact cb_flip x y
theorem cb_trans:∀(x y z:List UInt8),Lib.compareBytes x y≤0→Lib.compareBytes y z≤0→Lib.compareBytes x z≤0∧(Lib.compareBytes x y < 0∨Lib.compareBytes y z < 0→Lib.compareBytes x z < 0)
  | [],[],[],_,_=>by simp [Lib.compareBytes]
  | [],[],_ :: _,_,_=>by simp [Lib.compareBytes]
  | [],_ :: _,[],_,h=>by simp [Lib.compareBytes] at h
  | [],_ :: _,_ :: _,_,_=>by simp [Lib.compareBytes]
  | _ :: _,[],_,h,_=>by simp [Lib.compareBytes] at h
  | _ :: _,_ :: _,[],_,h=>by simp [Lib.compareBytes] at h
  | a :: x,b :: y,c :: z,h1,h2=>by
    simp only [Lib.compareBytes] at h1 h2 ⊢
    rcases Nat.lt_trichotomy a.toNat b.toNat with hab | hab | hab
    · have e1:a < b:=UInt8.lt_iff_toNat_lt.2 hab
      rcases Nat.lt_trichotomy b.toNat c.toNat with hbc | hbc | hbc
      · have:a < c:=UInt8.lt_iff_toNat_lt.2 (by omega)
        simp [this]
      · have:a < c:=UInt8.lt_iff_toNat_lt.2 (by omega)
        simp [this]
      · have e2:c < b:=UInt8.lt_iff_toNat_lt.2 hbc
        have e3:¬b < c:=fun h=>by have:=UInt8.lt_iff_toNat_lt.1 h; omega
        simp [e2,e3] at h2
    · have e1:a=b:=UInt8.toNat_inj.1 hab
      subst e1
      have e0:¬a < a:=UInt8.lt_irrefl a
      simp only [e0,if_false] at h1 ⊢
      rcases Nat.lt_trichotomy a.toNat c.toNat with hbc | hbc | hbc
      · have:a < c:=UInt8.lt_iff_toNat_lt.2 hbc
        simp [this]
      · have e2:a=c:=UInt8.toNat_inj.1 hbc
        subst e2
        simp only [e0,if_false] at h2 ⊢
        exact cb_trans x y z h1 h2
      · have e2:c < a:=UInt8.lt_iff_toNat_lt.2 hbc
        have e3:¬a < c:=fun h=>by have:=UInt8.lt_iff_toNat_lt.1 h; omega
        simp [e2,e3] at h2
    · have e1:b < a:=UInt8.lt_iff_toNat_lt.2 hab
      have e3:¬a < b:=fun h=>by have:=UInt8.lt_iff_toNat_lt.1 h; omega
      simp [e1,e3] at h1
theorem cmp_flip (a b:Key):cmpK b a = - cmpK a b:=cb_flip _ _
theorem cmp_le {a b c:Key} (h1:cmpK a b≤0) (h2:cmpK b c≤0):cmpK a c≤0:=(cb_trans _ _ _ h1 h2).1
theorem cmp_lt {a b c:Key} (h1:cmpK a b < 0) (h2:cmpK b c≤0):cmpK a c < 0:=(cb_trans _ _ _ (by unfold cmpK at h1; omega) h2).2 (.inl h1)
end Go.AM
namespace Go.AM
open Go
set_option maxRecDepth 20000
def SortFSW (C:CallW) (g:FuncId) (q:List AV) (cv:Wr→Wr→Int) (f:FuncId):Prop:=∀(n:Nat) (d:Array Wr) (S:List (List AV)) (H:List HObj) (K:AV→St→Prop),AskW C g q cv n n S H→S[n]? = some (flat wA d)→d.size≤2305843009213693952→(∀R,Sort.PermIn 0 d.size d R→Sort.SortedIn (ltW cv) 0 d.size R→K (.tup []) ⟨S.set n (flat wA R),H⟩)→C (.fn f) [.row (.stk n) 0 d.size d.size,.fn (.func g) [] q] ⟨S,H⟩ K
def SortFNW (C:CallW) (f:FuncId):Prop:=∀(g:FuncId) (q:List AV) (S:List (List AV)) (H:List HObj) (K:AV→St→Prop),AV.under.go S.length q=true→K (.tup []) ⟨S,H⟩→C (.fn f) [.s .nilS,.fn (.func g) [] q] ⟨S,H⟩ K
def cvK (x y:Wr):Int:=cmpK x.key y.key
theorem swo_cvK:Sort.SWO (ltW cvK) where
  irrefl x:=decide_eq_false (by have:=cmp_flip x.key x.key; unfold cvK; omega)
  trans x y z h1 h2:=by
    have h1:cmpK x.key y.key < 0:=of_decide_eq_true h1
    have h2:cmpK y.key z.key < 0:=of_decide_eq_true h2
    exact decide_eq_true (cmp_lt h1 (by omega))
  ntrans x y z h1 h2:=by
    have h1:¬(cmpK x.key y.key < 0):=of_decide_eq_false h1
    have h2:¬(cmpK y.key z.key < 0):=of_decide_eq_false h2
    have q1:=cmp_flip x.key y.key
    have q2:=cmp_flip y.key z.key
    have q3:=cmp_flip x.key z.key
    have:=cmp_le (a:=z.key) (b:=y.key) (c:=x.key) (by omega) (by omega)
    exact decide_eq_false (by unfold cvK; omega)
end Go.AM
namespace Go.AM
open Go
set_option maxRecDepth 20000
def y26a1 (c:Nat→FuncId):LCode:=(.seq (.sq [(zs 5 (.shift 0 (.t 2))),(zs 6 (.loadA 16 (.t 5))),(zs 7 (.shift 0 (.t 3))),(zs 8 (.loadA 16 (.t 7))),(zs 9 (.call (.f (c 0)) [(.t 6),(.t 8)])),(zs 4 (.mv true (.t 9)))]) .ret)
def Uz2v (c:Nat→FuncId):=PLift.up (@unfC _ _ (y26a1.eq_1 c))
def Cz1w (c:Nat→FuncId):LFn:=⟨10,[.t 4],(.seq (.sq [(zs 2 (.box false false (.t 0))),(zs 3 (.box false false (.t 1))),(zs 4 (.mv true (zi 0)))]) (y26a1 c))⟩
def Cz1q (c:Nat→FuncId):LFn:=⟨4,[.t 2],(.seq (.sq [(zs 1 (.box false true (.t 0))),(zs 2 (.mv true (.c .nilF)))]) (.seq (.sq [(zs 3 (.mkfn (c 0) [] [(.t 1)])),(zs 2 (.mv true (.t 3)))]) .ret))⟩
def y26b1:LCode:=(.seq (.sq [(zv 11 0),(zs 12 (.loadA 18 (.t 4))),(zs 13 (.call (.t 11) [(.t 12)])),(zs 14 (.un .not (.t 13)))]) (.cond (.t 14) .ret .skip))
def y26b2:LCode:=(.block 1 (.seq (.sq [(zs 9 (.ent (.t 6))),(zs 10 (.ext (.t 9) 1)),(zs 4 (.alloc false (zk ++ [(.s (.str [])),(.s (.bool false))]))),(zn (.store 18 (.t 4) (.t 10)))]) y26b1))
def y26b3:LCode:=(.seq (.sq [(zs 7 (.nxt (.t 6))),(zs 8 (.ext (.t 7) 0))]) (.seq (.cond (.t 8) .skip (.exit 0)) y26b2))
def y26b4:LCode:=(.block 0 (.loop (zm false [0,1,5,1,8]) y26b3))
def Uzk:=PLift.up (zc (zc (@unfC _ _ (y26b1.eq_1)) (@unfC _ _ (y26b2.eq_1))) (zc (@unfC _ _ (y26b3.eq_1)) (@unfC _ _ (y26b4.eq_1))))
def Czd:LFn:=⟨15,[],(.seq (.sq [(zs 5 (.load1 false (.t 1))),(zs 6 (.rng (.t 5)))]) y26b4)⟩
def Czp:LFn:=⟨0,[],(.sq [(zs 5 (.alloc false (zk ++ [(.s (.str [])),(.s (.bool false))]))),(zn (.store 18 (.t 5) (.t 7)))])⟩
def Czq:LFn:=⟨0,[],(.block 1 (.sq [(zs 8 (.load1 true (.t 2))),(zs 9 (.loadA 18 (.t 5))),(zs 10 (.bsl ⟨18,true,40,(.agg (zk ++ [(.s (.str [])),(.s (.bool false))]))⟩ 1 [(0,(.t 9))])),(zs 11 (.app ⟨18,true,40,(.agg (zk ++ [(.s (.str [])),(.s (.bool false))]))⟩ false (.t 8) (.t 10))),(zn (.stu (.t 2) (.t 11)))]))⟩
def y26c1 (c:Nat→FuncId) (as1 bd1:Code):LCode:=(.seq (.seq (.sq [(zv 6 1)]) (.block 0 (.rfun (.t 6) (c 0) #[7] as1 bd1))) (.seq (.sq [(zs 12 (.load1 true (.t 2))),(zs 4 (.mv true (.t 12)))]) .ret))
def Uz19 (c:Nat→FuncId) (as1 bd1:Code):=PLift.up (@unfC _ _ (y26c1.eq_1 c as1 bd1))
def Czw (c:Nat→FuncId) (as1 bd1:Code):LFn:=⟨13,[.t 4],(.seq (.sq [(zs 2 (.box true true (.t 0))),(zs 4 (.mv true (.c .nilS)))]) (y26c1 c as1 bd1))⟩
def y26d1 (c:Nat→FuncId):LCode:=(.seq (.sq [(zv 3 0),(zs 4 (.call (.f (c 0)) [(.c .nilS),(.t 3)])),(zs 2 (.mv true (.t 4)))]) .ret)
def Uz1z (c:Nat→FuncId):=PLift.up (@unfC _ _ (y26d1.eq_1 c))
def Cz17 (c:Nat→FuncId):LFn:=⟨5,[.t 2],(.seq (.sq [(zs 2 (.mv true (.c .nilS)))]) (y26d1 c))⟩
def y26e1 (c:Nat→FuncId):LCode:=(.seq (.sq [(zs 11 (.frz ⟨18,true,40,(.agg (zk ++ [(.s (.str [])),(.s (.bool false))]))⟩ (.t 5))),(zs 4 (.mv true (.t 11)))]) .ret)
def y26e2 (c:Nat→FuncId):LCode:=(.seq (.sq [(zs 8 (.thaw 5)),(zv 9 1),(zs 10 (.call (.f (c 1)) [(.t 8),(.t 9)]))]) (y26e1 c))
def y26e3 (c:Nat→FuncId):LCode:=(.seq (.sq [(zv 6 0),(zs 7 (.call (.f (c 0)) [(.t 6)])),(zs 5 (.mv true (.t 7)))]) (y26e2 c))
def Uze (c:Nat→FuncId):=PLift.up (zc (@unfC _ _ (y26e1.eq_1 c)) (zc (@unfC _ _ (y26e2.eq_1 c)) (@unfC _ _ (y26e3.eq_1 c))))
def Cz9 (c:Nat→FuncId):LFn:=⟨12,[.t 4],(.seq (.sq [(zs 4 (.mv true (.c .nilS)))]) (y26e3 c))⟩
def y26f1 (c:Nat→FuncId):LCode:=(.seq (.sq [(zv 3 0),(zs 4 (.call (.f (c 0)) [(.t 3)])),(zs 5 (.call (.f (c 1)) [(.t 4),(.f (c 2))])),(zs 2 (.mv true (.t 5)))]) .ret)
def Uz2n (c:Nat→FuncId):=PLift.up (@unfC _ _ (y26f1.eq_1 c))
def Cz1u (c:Nat→FuncId):LFn:=⟨6,[.t 2],(.seq (.sq [(zs 2 (.mv true (.c .nilS)))]) (y26f1 c))⟩
def y26g1:LCode:=(.seq (.sq [(zv 3 0),(zs 4 (.mkmap none)),(zs 5 (.build [(.s .nilP),(.s .nilM)] [(0,1,(.t 3)),(1,1,(.t 4))])),(zs 6 (.box false true (.t 5))),(zs 2 (.mv true (.t 6)))]) .ret)
def Uz74:=PLift.up (@unfC _ _ (y26g1.eq_1))
def Cz3f:LFn:=⟨7,[.t 2],(.seq (.sq [(zs 2 (.mv true (.c .nilP)))]) y26g1)⟩
def y26h1 (c:Nat→FuncId):LCode:=(.seq (.tree (.rd (zv 21 0) 0 true (.rd (zs 22 (.nilc (.t 21))) 1 true (.rd (zs 23 (.shift 1 (.t 22))) 2 true (.rd (zs 24 (.load1 false (.t 23))) 3 true (.rd (zv 25 1) 4 true (.rd (zs 26 (.loadA 2 (.t 5))) 5 true (.mv (zs 27 (.mkmap none)) [] (.rd (zs 28 (.build [(.s (.int .i64 0)),(.s (.int .u8 0)),(.s .nilM),(.s (.int .i64 0)),(.s .nilS),(.s .nilS),(.s .nilM),(.s (.bool false)),(.s (.int .i64 0)),(.s (.int .u8 0)),(.s (.int .i64 0))] [(0,2,(.t 26)),(2,1,(.t 27))])) 7 false (.mv (zs 29 (.box false true (.t 28))) [5,6,7] (.mv (zn (.upd (.one (.int .i64)) (.t 24) (.t 25) (.t 29))) [0,1,2,3,4,5,6,7,8] .done .stop) .stop)) .stop)))))))) (.seq (.sq [(zs 6 (.mv true (zi 0)))]) .ret))
def y26h2 (c:Nat→FuncId):LCode:=(.seq (.seq (.sq [(zv 14 0),(zs 15 (.nilc (.t 14))),(zs 16 (.shift 1 (.t 15))),(zs 17 (.load1 false (.t 16))),(zv 18 1),(zs 19 (.look (.one (.int .i64)) (.s .nilP) false (.t 17) (.t 18))),(zs 20 (.bin .neq (.ref 0) (.t 19) (.c .nilP)))]) (.cond (.t 20) (.seq (.sq [(zs 6 (.mv true (zi 5)))]) .ret) .skip)) (y26h1 c))
def y26h3 (c:Nat→FuncId):LCode:=(.seq (.seq (.sq [(zv 7 1),(zs 8 (.bin .lss .sc (.t 7) (zi 1))),(zv 9 8),(zf 10 9 (.loadA 2 (.t 5))),(zf 11 9 (.call (.f (c 0)) [(.t 10)])),(zf 12 9 (.un .not (.t 11))),(zs 13 (.pick (.t 9) zT (.t 12)))]) (.cond (.t 13) (.seq (.sq [(zs 6 (.mv true (zi 1)))]) .ret) .skip)) (y26h2 c))
def Uzs (c:Nat→FuncId):=PLift.up (zc (@unfC _ _ (y26h1.eq_1 c)) (zc (@unfC _ _ (y26h2.eq_1 c)) (@unfC _ _ (y26h3.eq_1 c))))
def Czi (c:Nat→FuncId):LFn:=⟨30,[.t 6],(.seq (.sq [(zs 5 (.box false false (.t 2))),(zs 6 (.mv true (zi 0)))]) (y26h3 c))⟩
def y26i1:LCode:=(.cond (.t 16) (.seq (.sq [(zs 4 (.mv true (.c .nilP))),(zs 5 (.mv true (zi 10)))]) .ret) .skip)
def y26i2:LCode:=(.seq (.sq [(zv 17 6),(zs 18 (.nilc (.t 17))),(zs 19 (.shift 3 (.t 18))),(zs 20 (.load1 false (.t 19))),(zs 21 (.bin .neq .sc (.t 20) (zi 0))),(zs 16 (.mv true (.t 21)))]) y26i1)
def y26i3:LCode:=(.cond (.t 13) (.seq (.sq [(zs 4 (.mv true (.c .nilP))),(zs 5 (.mv true (zi 4)))]) .ret) y26i2)
def y26i4:LCode:=(.seq (.sq [(zv 22 6),(zs 4 (.mv true (.t 22))),(zs 5 (.mv true (zi 0)))]) .ret)
def y26i5:LCode:=(.seq (.block 0 (.seq (.sq [(zv 14 6),(zs 15 (.bin .eql (.ref 0) (.t 14) (.c .nilP))),(zs 13 (.mv true (.t 15)))]) y26i3)) y26i4)
def y26i6:LCode:=(.seq (.sq [(zv 7 0),(zs 8 (.nilc (.t 7))),(zs 9 (.shift 1 (.t 8))),(zs 10 (.load1 false (.t 9))),(zv 11 1),(zs 12 (.look (.one (.int .i64)) (.s .nilP) false (.t 10) (.t 11))),(zs 6 (.mv true (.t 12)))]) y26i5)
def Uz1r:=PLift.up (zc (zc (@unfC _ _ (y26i1.eq_1)) (zc (@unfC _ _ (y26i2.eq_1)) (@unfC _ _ (y26i3.eq_1)))) (zc (@unfC _ _ (y26i4.eq_1)) (zc (@unfC _ _ (y26i5.eq_1)) (@unfC _ _ (y26i6.eq_1)))))
def Cz15:LFn:=⟨23,[.t 4,.t 5],(.seq (.sq [(zs 4 (.mv true (.c .nilP))),(zs 5 (.mv true (zi 0)))]) y26i6)⟩
def y26j1 (c:Nat→FuncId):LCode:=(.seq (.sq [(zs 22 (.loadA 18 (.t 5))),(zs 23 (.bsl ⟨18,true,40,(.agg (zk ++ [(.s (.str [])),(.s (.bool false))]))⟩ 1 [(0,(.t 22))])),(zs 24 (.call (.f (c 1)) [(.t 23)])),(zs 25 (.un .not (.t 24))),(zs 21 (.mv true (.t 25)))]) (.cond (.t 21) (.seq (.sq [(zs 6 (.mv true (zi 1)))]) .ret) .skip))
def y26j2 (c:Nat→FuncId):LCode:=(.cond (.t 17) (.seq (.sq [(zv 20 8),(zs 6 (.mv true (.t 20)))]) .ret) (y26j1 c))
def y26j3 (c:Nat→FuncId):LCode:=(.seq (.sq [(zv 36 10),(zs 37 (.un .not (.t 36))),(zv 38 37),(zt 39 38 (.mv false (.t 7))),(zt 40 38 (.nilc (.t 39))),(zt 41 38 (.shift 2 (.t 40))),(zt 42 38 (.load1 false (.t 41))),(zt 43 38 (.len .map (.t 42))),(zt 44 38 (.bin .geq .sc (.t 43) (zi 16))),(zs 45 (.pick (.t 38) (.t 44) zF))]) (.cond (.t 45) (.seq (.sq [(zs 6 (.mv true (zi 6)))]) .ret) .skip))
def y26j4 (c:Nat→FuncId):LCode:=(.seq (.tree (.rd (zv 46 7) 0 false (.rd (zs 47 (.nilc (.t 46))) 1 false (.rd (zs 48 (.shift 2 (.t 47))) 2 false (.rd (zs 49 (.load1 false (.t 48))) 3 false (.rd (zs 50 (.shift 0 (.t 5))) 4 false (.rd (zs 51 (.loadA 16 (.t 50))) 5 false (.rd (zs 52 (.loadA 18 (.t 5))) 6 false (.mv (zn (.upd (.leaf lk) (.t 49) (.t 51) (.t 52))) [0,1,2,3,4,5,6] .done .stop))))))))) (.seq (.sq [(zs 6 (.mv true (zi 0)))]) .ret))
def y26j5 (c:Nat→FuncId):LCode:=(.seq (.seq (.tree (.rd (zv 27 7) 0 true (.rd (zs 28 (.nilc (.t 27))) 1 true (.rd (zs 29 (.shift 2 (.t 28))) 2 true (.rd (zs 30 (.load1 false (.t 29))) 3 true (.rd (zs 31 (.shift 0 (.t 5))) 4 true (.rd (zs 32 (.loadA 16 (.t 31))) 5 true (.rd (zs 33 (.look (.leaf lk) (.agg (zk ++ [(.s (.str [])),(.s (.bool false))])) true (.t 30) (.t 32))) 6 true (.rd (zv 26 33) 7 true (.rd (zs 34 (.ext (.t 26) 0)) 8 true (.rd (zs 35 (.ext (.t 26) 1)) 9 true (.mv (zs 9 (.alloc false (zk ++ [(.s (.str [])),(.s (.bool false))]))) [] (.mv (zn (.store 18 (.t 9) (.t 34))) [0,1,2,3,4,5,6,7,8,10] (.mv (zs 10 (.mv true (.t 35))) [0,1,2,3,4,5,6,7,8,9,10,11] .done .stop) .stop) .stop)))))))))))) (y26j3 c)) (y26j4 c))
def y26j6 (c:Nat→FuncId):LCode:=(.seq (.block 0 (.seq (.sq [(zv 18 8),(zs 19 (.bin .neq .sc (.t 18) (zi 0))),(zs 17 (.mv true (.t 19)))]) (y26j2 c))) (y26j5 c))
def y26j7 (c:Nat→FuncId):LCode:=(.seq (.sq [(zv 12 0),(zv 13 1),(zs 14 (.call (.f (c 0)) [(.t 12),(.t 13)])),(zv 11 14),(zs 15 (.ext (.t 11) 0)),(zs 16 (.ext (.t 11) 1)),(zs 7 (.mv true (.t 15))),(zs 8 (.mv true (.t 16)))]) (y26j6 c))
def Uzn (c:Nat→FuncId):=PLift.up (zc (zc (@unfC _ _ (y26j1.eq_1 c)) (zc (@unfC _ _ (y26j2.eq_1 c)) (@unfC _ _ (y26j3.eq_1 c)))) (zc (zc (@unfC _ _ (y26j4.eq_1 c)) (@unfC _ _ (y26j5.eq_1 c))) (zc (@unfC _ _ (y26j6.eq_1 c)) (@unfC _ _ (y26j7.eq_1 c)))))
def Czh (c:Nat→FuncId):LFn:=⟨53,[.t 6],(.seq (.sq [(zs 5 (.box false false (.t 2))),(zs 6 (.mv true (zi 0)))]) (y26j7 c))⟩
def y26k1 (c:Nat→FuncId):LCode:=(.tree (.rd (zv 18 0) 0 true (.rd (zs 19 (.nilc (.t 18))) 1 true (.rd (zs 20 (.shift 0 (.t 19))) 2 true (.rd (zs 21 (.loadA 2 (.t 20))) 3 true (.rd (zv 22 0) 4 false (.rd (zs 23 (.nilc (.t 22))) 5 false (.rd (zs 24 (.shift 5 (.t 23))) 6 false (.rd (zs 25 (.load1 false (.t 24))) 7 false (.rd (zv 26 2) 8 false (.rd (zs 27 (.ixa (.sl 1) (.t 25) (.t 26))) 9 false (.rd (zs 28 (.load1 false (.t 27))) 10 false (.rd (zs 30 (.shift 0 (.t 7))) 12 true (.mv (zs 29 (.call (.f (c 0)) [(.t 28)])) [4,5,6,7,8,9,10] (.mv (zn (.store 1 (.t 30) (zi 5))) [4,5,6,7,8,9,10,11,12] (.rd (zs 31 (.shift 5 (.t 7))) 14 false (.mv (zn (.store 2 (.t 31) (.t 21))) [0,1,2,3,4,5,6,7,8,9,10,11,12,13,14] (.rd (zs 32 (.shift 39 (.t 7))) 16 false (.mv (zn (.store 1 (.t 32) (.t 29))) [0,1,2,3,4,5,6,7,8,9,10,11,12,13,14,15,16] .done .stop)) .stop)) .stop) .stop))))))))))))))
def y26k2 (c:Nat→FuncId):LCode:=(.tree (.rd (zv 38 0) 0 true (.rd (zs 39 (.nilc (.t 38))) 1 true (.rd (zs 40 (.shift 8 (.t 39))) 2 true (.rd (zs 41 (.loadA 2 (.t 40))) 3 true (.rd (zs 42 (.shift 0 (.t 7))) 4 false (.mv (zn (.store 1 (.t 42) (zi 7))) [4] (.rd (zs 43 (.shift 5 (.t 7))) 6 false (.mv (zn (.store 2 (.t 43) (.t 41))) [0,1,2,3,4,5,6] .done .stop)) .stop)))))))
def y26k3 (c:Nat→FuncId):LCode:=(.cond (.t 33) (y26k2 c) (.sq [(zs 11 (.shift 0 (.t 7))),(zn (.store 1 (.t 11) (zi 8)))]))
def y26k4 (c:Nat→FuncId):LCode:=(.seq (.sq [(zv 34 0),(zs 35 (.nilc (.t 34))),(zs 36 (.shift 7 (.t 35))),(zs 37 (.load1 false (.t 36))),(zs 33 (.mv true (.t 37)))]) (y26k3 c))
def y26k5 (c:Nat→FuncId):LCode:=(.seq (.block 0 (.seq (.sq [(zv 13 0),(zs 14 (.nilc (.t 13))),(zs 15 (.shift 3 (.t 14))),(zs 16 (.load1 false (.t 15))),(zs 17 (.bin .eql .sc (.t 16) (zi 1))),(zs 12 (.mv true (.t 17)))]) (.cond (.t 12) (y26k1 c) (y26k4 c)))) (.seq (.sq [(zs 44 (.loadA 45 (.t 7))),(zn (.store 45 (.t 6) (.t 44)))]) .ret))
def y26k6 (c:Nat→FuncId):LCode:=(.seq (.sq [(zv 8 2),(zv 9 1),(zs 10 (.build ([(.s (.int .i64 0)),(.s (.int .i64 0)),(.s (.int .i64 0)),(.s (.int .i64 0)),(.s (.int .i64 0)),(.s (.int .i64 0))] ++ zk ++ zk ++ [(.s (.int .u8 0)),(.s .nilS),(.s .nilS),(.s (.str [])),(.s (.bool false)),(.s (.bool false)),(.s (.int .i64 0))]) [(1,1,(zi 255)),(2,1,(.t 8)),(3,1,(.t 9))])),(zs 7 (.alloc false ([(.s (.int .i64 0)),(.s (.int .i64 0)),(.s (.int .i64 0)),(.s (.int .i64 0)),(.s (.int .i64 0)),(.s (.int .i64 0))] ++ zk ++ zk ++ [(.s (.int .u8 0)),(.s .nilS),(.s .nilS),(.s (.str [])),(.s (.bool false)),(.s (.bool false)),(.s (.int .i64 0))]))),(zn (.store 45 (.t 7) (.t 10)))]) (y26k5 c))
def Uz1x (c:Nat→FuncId):=PLift.up (zc (zc (@unfC _ _ (y26k1.eq_1 c)) (zc (@unfC _ _ (y26k2.eq_1 c)) (@unfC _ _ (y26k3.eq_1 c)))) (zc (@unfC _ _ (y26k4.eq_1 c)) (zc (@unfC _ _ (y26k5.eq_1 c)) (@unfC _ _ (y26k6.eq_1 c)))))
def Cz1a (c:Nat→FuncId):LFn:=⟨45,[.many 6 45],(.seq (.sq [(zs 6 (.alloc false ([(.s (.int .i64 0)),(.s (.int .i64 0)),(.s (.int .i64 0)),(.s (.int .i64 0)),(.s (.int .i64 0)),(.s (.int .i64 0))] ++ zk ++ zk ++ [(.s (.int .u8 0)),(.s .nilS),(.s .nilS),(.s (.str [])),(.s (.bool false)),(.s (.bool false)),(.s (.int .i64 0))])))]) (y26k6 c))⟩
def y26l1 (c:Nat→FuncId):LCode:=(.sq [(zs 24 (.mv true (.t 5))),(zv 25 0),(zv 26 1),(zv 27 7),(zs 28 (.call (.f (c 0)) [(.t 25),(.t 26),(.t 27)])),(zs 29 (.bsl ⟨45,true,168,(.agg ([(.s (.int .i64 0)),(.s (.int .i64 0)),(.s (.int .i64 0)),(.s (.int .i64 0)),(.s (.int .i64 0)),(.s (.int .i64 0))] ++ zk ++ zk ++ [(.s (.int .u8 0)),(.s .nilS),(.s .nilS),(.s (.str [])),(.s (.bool false)),(.s (.bool false)),(.s (.int .i64 0))]))⟩ 1 [(0,(.t 28))])),(zs 30 (.app ⟨45,true,168,(.agg ([(.s (.int .i64 0)),(.s (.int .i64 0)),(.s (.int .i64 0)),(.s (.int .i64 0)),(.s (.int .i64 0)),(.s (.int .i64 0))] ++ zk ++ zk ++ [(.s (.int .u8 0)),(.s .nilS),(.s .nilS),(.s (.str [])),(.s (.bool false)),(.s (.bool false)),(.s (.int .i64 0))]))⟩ false (.t 24) (.t 29))),(zs 5 (.mv true (.t 30)))])
def y26l2 (c:Nat→FuncId):LCode:=(.seq (.sq [(zv 17 0),(zs 18 (.nilc (.t 17))),(zs 19 (.shift 6 (.t 18))),(zs 20 (.load1 false (.t 19))),(zv 21 7),(zs 22 (.look (.one (.int .i64)) (.s (.bool false)) false (.t 20) (.t 21))),(zs 23 (.un .not (.t 22)))]) (.cond (.t 23) (y26l1 c) .skip))
def y26l3 (c:Nat→FuncId):LCode:=(.seq (.block 1 (.seq (.sq [(zs 15 (.ixa (.sl 1) (.t 11) (.t 13))),(zs 16 (.load1 false (.t 15))),(zs 7 (.mv true (.t 16)))]) (y26l2 c))) (.sq [(zs 31 (.bin .add .sc (.t 13) (zi 1))),(zv 13 31)]))
def y26l4 (c:Nat→FuncId):LCode:=(.seq (.sq [(zs 14 (.bin .lss .sc (.t 13) (.t 12)))]) (.seq (.cond (.t 14) .skip (.exit 0)) (y26l3 c)))
def y26l5 (c:Nat→FuncId):LCode:=(.block 0 (.loop (zm false [0,2,3,1,5,3,19]) (y26l4 c)))
def y26l6 (c:Nat→FuncId):LCode:=(.seq (.seq (.sq [(zv 8 0),(zs 9 (.nilc (.t 8))),(zs 10 (.shift 4 (.t 9))),(zs 11 (.load1 false (.t 10))),(zs 12 (.len .sl (.t 11))),(zs 13 (.mv false (zi 0)))]) (y26l5 c)) (.seq (.sq [(zs 32 (.mv true (.t 5))),(zs 4 (.mv true (.t 32)))]) .ret))
def Uz11 (c:Nat→FuncId):=PLift.up (zc (zc (@unfC _ _ (y26l1.eq_1 c)) (zc (@unfC _ _ (y26l2.eq_1 c)) (@unfC _ _ (y26l3.eq_1 c)))) (zc (@unfC _ _ (y26l4.eq_1 c)) (zc (@unfC _ _ (y26l5.eq_1 c)) (@unfC _ _ (y26l6.eq_1 c)))))
def Czo (c:Nat→FuncId):LFn:=⟨33,[.t 4],(.seq (.sq [(zs 4 (.mv true (.c .nilS)))]) (.seq (.sq [(zs 5 (.mv true (.c .nilS)))]) (y26l6 c)))⟩
def y26m1 (c:Nat→FuncId):LCode:=(.seq (.sq [(zv 17 7),(zs 4 (.mv true (.c .nilS))),(zs 5 (.mv true (.t 17)))]) .ret)
def y26m2 (c:Nat→FuncId):LCode:=(.seq (.sq [(zv 24 6),(zv 25 6),(zv 26 6),(zs 27 (.nilc (.t 26))),(zs 28 (.shift 0 (.t 27))),(zs 29 (.loadA 2 (.t 28))),(zs 30 (.nilc (.t 24))),(zs 31 (.shift 3 (.t 30))),(zn (.store 1 (.t 31) (zi 3))),(zs 32 (.nilc (.t 25))),(zs 33 (.shift 8 (.t 32))),(zn (.store 2 (.t 33) (.t 29)))]) (.seq (.sq [(zs 4 (.mv true (.c .nilS))),(zs 5 (.mv true (zi 0)))]) .ret))
def y26m3 (c:Nat→FuncId):LCode:=(.seq (.sq [(zv 64 6),(zv 65 1),(zs 66 (.call (.f (c 4)) [(.t 64),(.t 65)])),(zs 4 (.mv true (.t 66))),(zs 5 (.mv true (zi 0)))]) .ret)
def y26m4 (c:Nat→FuncId):LCode:=(.seq (.tree (.rd (zv 39 6) 0 true (.rd (zv 40 6) 1 true (.rd (zv 41 6) 2 true (.rd (zv 42 6) 3 true (.rd (zv 43 0) 4 true (.rd (zs 44 (.nilc (.t 43))) 5 true (.rd (zs 45 (.shift 0 (.t 44))) 6 true (.rd (zs 46 (.load1 false (.t 45))) 7 true (.rd (zv 47 8) 8 true (.rd (zv 49 0) 10 true (.rd (zs 50 (.nilc (.t 49))) 11 true (.rd (zs 51 (.shift 0 (.t 50))) 12 true (.rd (zs 52 (.load1 false (.t 51))) 13 true (.mv (zs 48 (.call (.f (c 2)) [(.t 46),(.t 47)])) [4,5,6,7,8] (.mv (zs 53 (.mv true (.t 8))) [] (.mv (zs 54 (.call (.f (c 3)) [(.t 52),(.t 53)])) [4,5,6,7,8,9,10,11,12,13,14] (.rd (zs 56 (.nilc (.t 39))) 17 true (.rd (zs 57 (.shift 3 (.t 56))) 18 true (.mv (zs 55 (.mkmap none)) [] (.mv (zn (.store 1 (.t 57) (zi 1))) [0,4,5,6,7,8,9,10,11,12,13,14,15,17,18] (.rd (zs 58 (.nilc (.t 40))) 20 false (.rd (zs 59 (.shift 4 (.t 58))) 21 false (.mv (zn (.store 1 (.t 59) (.t 48))) [0,1,4,5,6,7,8,9,10,11,12,13,14,15,17,18,19,20,21] (.rd (zs 60 (.nilc (.t 41))) 23 false (.rd (zs 61 (.shift 5 (.t 60))) 24 false (.mv (zn (.store 1 (.t 61) (.t 54))) [0,1,2,4,5,6,7,8,9,10,11,12,13,14,15,17,18,19,20,21,22,23,24] (.rd (zs 62 (.nilc (.t 42))) 26 false (.rd (zs 63 (.shift 6 (.t 62))) 27 false (.mv (zn (.store 1 (.t 63) (.t 55))) [0,1,2,3,4,5,6,7,8,9,10,11,12,13,14,15,16,17,18,19,20,21,22,23,24,25,26,27] .done .stop))) .stop))) .stop))) .stop) (.mv (zn (.store 1 (.t 57) (zi 1))) [0,4,5,6,7,8,9,10,11,12,13,14,15,17,18] (.rd (zs 58 (.nilc (.t 40))) 20 true (.rd (zs 59 (.shift 4 (.t 58))) 21 true (.mv (zs 55 (.mkmap none)) [] (.mv (zn (.store 1 (.t 59) (.t 48))) [0,1,4,5,6,7,8,9,10,11,12,13,14,15,17,18,19,20,21] (.rd (zs 60 (.nilc (.t 41))) 23 false (.rd (zs 61 (.shift 5 (.t 60))) 24 false (.mv (zn (.store 1 (.t 61) (.t 54))) [0,1,2,4,5,6,7,8,9,10,11,12,13,14,15,17,18,19,20,21,22,23,24] (.rd (zs 62 (.nilc (.t 42))) 26 false (.rd (zs 63 (.shift 6 (.t 62))) 27 false (.mv (zn (.store 1 (.t 63) (.t 55))) [0,1,2,3,4,5,6,7,8,9,10,11,12,13,14,15,16,17,18,19,20,21,22,23,24,25,26,27] .done .stop))) .stop))) .stop) (.mv (zn (.store 1 (.t 59) (.t 48))) [0,1,4,5,6,7,8,9,10,11,12,13,14,15,17,18,19,20,21] (.rd (zs 60 (.nilc (.t 41))) 23 true (.rd (zs 61 (.shift 5 (.t 60))) 24 true (.mv (zs 55 (.mkmap none)) [] (.mv (zn (.store 1 (.t 61) (.t 54))) [0,1,2,4,5,6,7,8,9,10,11,12,13,14,15,17,18,19,20,21,22,23,24] (.rd (zs 62 (.nilc (.t 42))) 26 false (.rd (zs 63 (.shift 6 (.t 62))) 27 false (.mv (zn (.store 1 (.t 63) (.t 55))) [0,1,2,3,4,5,6,7,8,9,10,11,12,13,14,15,16,17,18,19,20,21,22,23,24,25,26,27] .done .stop))) .stop) (.mv (zn (.store 1 (.t 61) (.t 54))) [0,1,2,4,5,6,7,8,9,10,11,12,13,14,15,17,18,19,20,21,22,23,24] (.mv (zs 55 (.mkmap none)) [] (.rd (zs 62 (.nilc (.t 42))) 26 false (.rd (zs 63 (.shift 6 (.t 62))) 27 false (.mv (zn (.store 1 (.t 63) (.t 55))) [0,1,2,3,4,5,6,7,8,9,10,11,12,13,14,15,16,17,18,19,20,21,22,23,24,25,26,27] .done .stop))) .stop) .stop)))) .stop)))) .stop)))) (.mv (zs 55 (.mkmap none)) [] (.mv (zs 54 (.call (.f (c 3)) [(.t 52),(.t 53)])) [4,5,6,7,8,9,10,11,12,13,14] (.rd (zs 56 (.nilc (.t 39))) 17 false (.rd (zs 57 (.shift 3 (.t 56))) 18 false (.mv (zn (.store 1 (.t 57) (zi 1))) [0,4,5,6,7,8,9,10,11,12,13,14,15,17,18] (.rd (zs 58 (.nilc (.t 40))) 20 false (.rd (zs 59 (.shift 4 (.t 58))) 21 false (.mv (zn (.store 1 (.t 59) (.t 48))) [0,1,4,5,6,7,8,9,10,11,12,13,14,15,17,18,19,20,21] (.rd (zs 60 (.nilc (.t 41))) 23 false (.rd (zs 61 (.shift 5 (.t 60))) 24 false (.mv (zn (.store 1 (.t 61) (.t 54))) [0,1,2,4,5,6,7,8,9,10,11,12,13,14,15,17,18,19,20,21,22,23,24] (.rd (zs 62 (.nilc (.t 42))) 26 false (.rd (zs 63 (.shift 6 (.t 62))) 27 false (.mv (zn (.store 1 (.t 63) (.t 55))) [0,1,2,3,4,5,6,7,8,9,10,11,12,13,14,15,16,17,18,19,20,21,22,23,24,25,26,27] .done .stop))) .stop))) .stop))) .stop))) .stop) .stop)) (.mv (zs 55 (.mkmap none)) [] (.mv (zs 53 (.mv true (.t 8))) [] (.mv (zs 54 (.call (.f (c 3)) [(.t 52),(.t 53)])) [4,5,6,7,8,9,10,11,12,13,14] (.rd (zs 56 (.nilc (.t 39))) 17 false (.rd (zs 57 (.shift 3 (.t 56))) 18 false (.mv (zn (.store 1 (.t 57) (zi 1))) [0,4,5,6,7,8,9,10,11,12,13,14,15,17,18] (.rd (zs 58 (.nilc (.t 40))) 20 false (.rd (zs 59 (.shift 4 (.t 58))) 21 false (.mv (zn (.store 1 (.t 59) (.t 48))) [0,1,4,5,6,7,8,9,10,11,12,13,14,15,17,18,19,20,21] (.rd (zs 60 (.nilc (.t 41))) 23 false (.rd (zs 61 (.shift 5 (.t 60))) 24 false (.mv (zn (.store 1 (.t 61) (.t 54))) [0,1,2,4,5,6,7,8,9,10,11,12,13,14,15,17,18,19,20,21,22,23,24] (.rd (zs 62 (.nilc (.t 42))) 26 false (.rd (zs 63 (.shift 6 (.t 62))) 27 false (.mv (zn (.store 1 (.t 63) (.t 55))) [0,1,2,3,4,5,6,7,8,9,10,11,12,13,14,15,16,17,18,19,20,21,22,23,24,25,26,27] .done .stop))) .stop))) .stop))) .stop))) .stop) .stop) .stop)) (.mv (zs 53 (.mv true (.t 8))) [] (.mv (zs 48 (.call (.f (c 2)) [(.t 46),(.t 47)])) [4,5,6,7,8] (.mv (zs 54 (.call (.f (c 3)) [(.t 52),(.t 53)])) [4,5,6,7,8,9,10,11,12,13,14] (.rd (zs 56 (.nilc (.t 39))) 17 true (.rd (zs 57 (.shift 3 (.t 56))) 18 true (.mv (zs 55 (.mkmap none)) [] (.mv (zn (.store 1 (.t 57) (zi 1))) [0,4,5,6,7,8,9,10,11,12,13,14,15,17,18] (.rd (zs 58 (.nilc (.t 40))) 20 false (.rd (zs 59 (.shift 4 (.t 58))) 21 false (.mv (zn (.store 1 (.t 59) (.t 48))) [0,1,4,5,6,7,8,9,10,11,12,13,14,15,17,18,19,20,21] (.rd (zs 60 (.nilc (.t 41))) 23 false (.rd (zs 61 (.shift 5 (.t 60))) 24 false (.mv (zn (.store 1 (.t 61) (.t 54))) [0,1,2,4,5,6,7,8,9,10,11,12,13,14,15,17,18,19,20,21,22,23,24] (.rd (zs 62 (.nilc (.t 42))) 26 false (.rd (zs 63 (.shift 6 (.t 62))) 27 false (.mv (zn (.store 1 (.t 63) (.t 55))) [0,1,2,3,4,5,6,7,8,9,10,11,12,13,14,15,16,17,18,19,20,21,22,23,24,25,26,27] .done .stop))) .stop))) .stop))) .stop) (.mv (zn (.store 1 (.t 57) (zi 1))) [0,4,5,6,7,8,9,10,11,12,13,14,15,17,18] (.rd (zs 58 (.nilc (.t 40))) 20 true (.rd (zs 59 (.shift 4 (.t 58))) 21 true (.mv (zs 55 (.mkmap none)) [] (.mv (zn (.store 1 (.t 59) (.t 48))) [0,1,4,5,6,7,8,9,10,11,12,13,14,15,17,18,19,20,21] (.rd (zs 60 (.nilc (.t 41))) 23 false (.rd (zs 61 (.shift 5 (.t 60))) 24 false (.mv (zn (.store 1 (.t 61) (.t 54))) [0,1,2,4,5,6,7,8,9,10,11,12,13,14,15,17,18,19,20,21,22,23,24] (.rd (zs 62 (.nilc (.t 42))) 26 false (.rd (zs 63 (.shift 6 (.t 62))) 27 false (.mv (zn (.store 1 (.t 63) (.t 55))) [0,1,2,3,4,5,6,7,8,9,10,11,12,13,14,15,16,17,18,19,20,21,22,23,24,25,26,27] .done .stop))) .stop))) .stop) (.mv (zn (.store 1 (.t 59) (.t 48))) [0,1,4,5,6,7,8,9,10,11,12,13,14,15,17,18,19,20,21] (.rd (zs 60 (.nilc (.t 41))) 23 true (.rd (zs 61 (.shift 5 (.t 60))) 24 true (.mv (zs 55 (.mkmap none)) [] (.mv (zn (.store 1 (.t 61) (.t 54))) [0,1,2,4,5,6,7,8,9,10,11,12,13,14,15,17,18,19,20,21,22,23,24] (.rd (zs 62 (.nilc (.t 42))) 26 false (.rd (zs 63 (.shift 6 (.t 62))) 27 false (.mv (zn (.store 1 (.t 63) (.t 55))) [0,1,2,3,4,5,6,7,8,9,10,11,12,13,14,15,16,17,18,19,20,21,22,23,24,25,26,27] .done .stop))) .stop) (.mv (zn (.store 1 (.t 61) (.t 54))) [0,1,2,4,5,6,7,8,9,10,11,12,13,14,15,17,18,19,20,21,22,23,24] (.mv (zs 55 (.mkmap none)) [] (.rd (zs 62 (.nilc (.t 42))) 26 false (.rd (zs 63 (.shift 6 (.t 62))) 27 false (.mv (zn (.store 1 (.t 63) (.t 55))) [0,1,2,3,4,5,6,7,8,9,10,11,12,13,14,15,16,17,18,19,20,21,22,23,24,25,26,27] .done .stop))) .stop) .stop)))) .stop)))) .stop)))) (.mv (zs 55 (.mkmap none)) [] (.mv (zs 54 (.call (.f (c 3)) [(.t 52),(.t 53)])) [4,5,6,7,8,9,10,11,12,13,14] (.rd (zs 56 (.nilc (.t 39))) 17 false (.rd (zs 57 (.shift 3 (.t 56))) 18 false (.mv (zn (.store 1 (.t 57) (zi 1))) [0,4,5,6,7,8,9,10,11,12,13,14,15,17,18] (.rd (zs 58 (.nilc (.t 40))) 20 false (.rd (zs 59 (.shift 4 (.t 58))) 21 false (.mv (zn (.store 1 (.t 59) (.t 48))) [0,1,4,5,6,7,8,9,10,11,12,13,14,15,17,18,19,20,21] (.rd (zs 60 (.nilc (.t 41))) 23 false (.rd (zs 61 (.shift 5 (.t 60))) 24 false (.mv (zn (.store 1 (.t 61) (.t 54))) [0,1,2,4,5,6,7,8,9,10,11,12,13,14,15,17,18,19,20,21,22,23,24] (.rd (zs 62 (.nilc (.t 42))) 26 false (.rd (zs 63 (.shift 6 (.t 62))) 27 false (.mv (zn (.store 1 (.t 63) (.t 55))) [0,1,2,3,4,5,6,7,8,9,10,11,12,13,14,15,16,17,18,19,20,21,22,23,24,25,26,27] .done .stop))) .stop))) .stop))) .stop))) .stop) .stop)) (.mv (zs 55 (.mkmap none)) [] (.mv (zs 48 (.call (.f (c 2)) [(.t 46),(.t 47)])) [4,5,6,7,8] (.mv (zs 54 (.call (.f (c 3)) [(.t 52),(.t 53)])) [4,5,6,7,8,9,10,11,12,13,14] (.rd (zs 56 (.nilc (.t 39))) 17 false (.rd (zs 57 (.shift 3 (.t 56))) 18 false (.mv (zn (.store 1 (.t 57) (zi 1))) [0,4,5,6,7,8,9,10,11,12,13,14,15,17,18] (.rd (zs 58 (.nilc (.t 40))) 20 false (.rd (zs 59 (.shift 4 (.t 58))) 21 false (.mv (zn (.store 1 (.t 59) (.t 48))) [0,1,4,5,6,7,8,9,10,11,12,13,14,15,17,18,19,20,21] (.rd (zs 60 (.nilc (.t 41))) 23 false (.rd (zs 61 (.shift 5 (.t 60))) 24 false (.mv (zn (.store 1 (.t 61) (.t 54))) [0,1,2,4,5,6,7,8,9,10,11,12,13,14,15,17,18,19,20,21,22,23,24] (.rd (zs 62 (.nilc (.t 42))) 26 false (.rd (zs 63 (.shift 6 (.t 62))) 27 false (.mv (zn (.store 1 (.t 63) (.t 55))) [0,1,2,3,4,5,6,7,8,9,10,11,12,13,14,15,16,17,18,19,20,21,22,23,24,25,26,27] .done .stop))) .stop))) .stop))) .stop))) .stop) .stop) .stop)) (.mv (zs 55 (.mkmap none)) [] (.mv (zs 48 (.call (.f (c 2)) [(.t 46),(.t 47)])) [4,5,6,7,8] (.mv (zs 53 (.mv true (.t 8))) [] (.mv (zs 54 (.call (.f (c 3)) [(.t 52),(.t 53)])) [4,5,6,7,8,9,10,11,12,13,14] (.rd (zs 56 (.nilc (.t 39))) 17 false (.rd (zs 57 (.shift 3 (.t 56))) 18 false (.mv (zn (.store 1 (.t 57) (zi 1))) [0,4,5,6,7,8,9,10,11,12,13,14,15,17,18] (.rd (zs 58 (.nilc (.t 40))) 20 false (.rd (zs 59 (.shift 4 (.t 58))) 21 false (.mv (zn (.store 1 (.t 59) (.t 48))) [0,1,4,5,6,7,8,9,10,11,12,13,14,15,17,18,19,20,21] (.rd (zs 60 (.nilc (.t 41))) 23 false (.rd (zs 61 (.shift 5 (.t 60))) 24 false (.mv (zn (.store 1 (.t 61) (.t 54))) [0,1,2,4,5,6,7,8,9,10,11,12,13,14,15,17,18,19,20,21,22,23,24] (.rd (zs 62 (.nilc (.t 42))) 26 false (.rd (zs 63 (.shift 6 (.t 62))) 27 false (.mv (zn (.store 1 (.t 63) (.t 55))) [0,1,2,3,4,5,6,7,8,9,10,11,12,13,14,15,16,17,18,19,20,21,22,23,24,25,26,27] .done .stop))) .stop))) .stop))) .stop))) .stop) .stop) (.mv (zs 53 (.mv true (.t 8))) [] (.mv (zs 48 (.call (.f (c 2)) [(.t 46),(.t 47)])) [4,5,6,7,8] (.mv (zs 54 (.call (.f (c 3)) [(.t 52),(.t 53)])) [4,5,6,7,8,9,10,11,12,13,14] (.rd (zs 56 (.nilc (.t 39))) 17 false (.rd (zs 57 (.shift 3 (.t 56))) 18 false (.mv (zn (.store 1 (.t 57) (zi 1))) [0,4,5,6,7,8,9,10,11,12,13,14,15,17,18] (.rd (zs 58 (.nilc (.t 40))) 20 false (.rd (zs 59 (.shift 4 (.t 58))) 21 false (.mv (zn (.store 1 (.t 59) (.t 48))) [0,1,4,5,6,7,8,9,10,11,12,13,14,15,17,18,19,20,21] (.rd (zs 60 (.nilc (.t 41))) 23 false (.rd (zs 61 (.shift 5 (.t 60))) 24 false (.mv (zn (.store 1 (.t 61) (.t 54))) [0,1,2,4,5,6,7,8,9,10,11,12,13,14,15,17,18,19,20,21,22,23,24] (.rd (zs 62 (.nilc (.t 42))) 26 false (.rd (zs 63 (.shift 6 (.t 62))) 27 false (.mv (zn (.store 1 (.t 63) (.t 55))) [0,1,2,3,4,5,6,7,8,9,10,11,12,13,14,15,16,17,18,19,20,21,22,23,24,25,26,27] .done .stop))) .stop))) .stop))) .stop))) .stop) .stop) .stop)) .stop))))))))))))))))) (y26m3 c))
def y26m5 (c:Nat→FuncId):LCode:=(.seq (.sq [(zv 34 6),(zs 35 (.nilc (.t 34))),(zs 36 (.shift 2 (.t 35))),(zs 37 (.load1 false (.t 36))),(zs 38 (.call (.f (c 1)) [(.t 37)])),(zs 8 (.mv true (.t 38)))]) (y26m4 c))
def y26m6 (c:Nat→FuncId):LCode:=(.seq (.seq (.sq [(zv 18 6),(zs 19 (.nilc (.t 18))),(zs 20 (.shift 2 (.t 19))),(zs 21 (.load1 false (.t 20))),(zs 22 (.len .map (.t 21))),(zs 23 (.bin .eql .sc (.t 22) (zi 0)))]) (.cond (.t 23) (y26m2 c) .skip)) (y26m5 c))
def y26m7 (c:Nat→FuncId):LCode:=(.seq (.seq (.sq [(zv 15 7),(zs 16 (.bin .neq .sc (.t 15) (zi 0)))]) (.cond (.t 16) (y26m1 c) .skip)) (y26m6 c))
def y26m8 (c:Nat→FuncId):LCode:=(.seq (.sq [(zv 10 0),(zv 11 1),(zs 12 (.call (.f (c 0)) [(.t 10),(.t 11)])),(zv 9 12),(zs 13 (.ext (.t 9) 0)),(zs 14 (.ext (.t 9) 1)),(zs 6 (.mv true (.t 13))),(zs 7 (.mv true (.t 14)))]) (y26m7 c))
def Uzl (c:Nat→FuncId):=PLift.up (zc (zc (zc (@unfC _ _ (y26m1.eq_1 c)) (@unfC _ _ (y26m2.eq_1 c))) (zc (@unfC _ _ (y26m3.eq_1 c)) (@unfC _ _ (y26m4.eq_1 c)))) (zc (zc (@unfC _ _ (y26m5.eq_1 c)) (@unfC _ _ (y26m6.eq_1 c))) (zc (@unfC _ _ (y26m7.eq_1 c)) (@unfC _ _ (y26m8.eq_1 c)))))
def Czg (c:Nat→FuncId):LFn:=⟨67,[.t 4,.t 5],(.seq (.sq [(zs 4 (.mv true (.c .nilS))),(zs 5 (.mv true (zi 0)))]) (y26m8 c))⟩
def y26n1 (c:Nat→FuncId):LCode:=(.sq [(zv 20 0),(zs 21 (.build [(.s (.int .i64 0)),(.s (.int .u8 0))] [])),(zs 22 (.nilc (.t 20))),(zs 23 (.shift 8 (.t 22))),(zn (.store 2 (.t 23) (.t 21)))])
def y26n2 (c:Nat→FuncId):LCode:=(.seq (.sq [(zv 24 0),(zv 25 1),(zs 26 (.call (.f (c 0)) [(.t 24),(.t 25)])),(zs 6 (.mv true (.t 26)))]) .ret)
def y26n3 (c:Nat→FuncId):LCode:=(.seq (.seq (.sq [(zv 18 2),(zs 19 (.un .not (.t 18)))]) (.cond (.t 19) (y26n1 c) .skip)) (y26n2 c))
def y26n4 (c:Nat→FuncId):LCode:=(.seq (.sq [(zv 7 0),(zv 8 0),(zv 9 0),(zv 10 2),(zs 11 (.mkmap none)),(zs 12 (.nilc (.t 7))),(zs 13 (.shift 3 (.t 12))),(zn (.store 1 (.t 13) (zi 2))),(zs 14 (.nilc (.t 8))),(zs 15 (.shift 7 (.t 14))),(zn (.store 1 (.t 15) (.t 10))),(zs 16 (.nilc (.t 9))),(zs 17 (.shift 6 (.t 16))),(zn (.store 1 (.t 17) (.t 11)))]) (y26n3 c))
def Uz1g (c:Nat→FuncId):=PLift.up (zc (zc (@unfC _ _ (y26n1.eq_1 c)) (@unfC _ _ (y26n2.eq_1 c))) (zc (@unfC _ _ (y26n3.eq_1 c)) (@unfC _ _ (y26n4.eq_1 c))))
def Czx (c:Nat→FuncId):LFn:=⟨27,[.t 6],(.seq (.sq [(zs 6 (.mv true (.c .nilS)))]) (y26n4 c))⟩
def y26o1 (c:Nat→FuncId):LCode:=(.sq [(zv 38 0),(zs 39 (.nilc (.t 38))),(zs 40 (.shift 10 (.t 39))),(zn (.store 1 (.t 40) (zi 9)))])
def y26o2 (c:Nat→FuncId):LCode:=(.seq (.sq [(zv 41 0),(zs 42 (.shift 3 (.t 3))),(zs 43 (.load1 false (.t 42))),(zs 44 (.call (.f (c 2)) [(.t 41),(.t 43),zF])),(zs 4 (.mv true (.t 44)))]) .ret)
def y26o3 (c:Nat→FuncId):LCode:=(.seq (.seq (.sq [(zs 35 (.shift 44 (.t 3))),(zs 36 (.load1 false (.t 35))),(zs 37 (.bin .leq .sc (.t 36) (zi 0)))]) (.cond (.t 37) (y26o1 c) .skip)) (y26o2 c))
def y26o4 (c:Nat→FuncId):LCode:=(.seq (.sq [(zv 30 0),(zs 31 (.shift 44 (.t 3))),(zs 32 (.load1 false (.t 31))),(zs 33 (.nilc (.t 30))),(zs 34 (.shift 10 (.t 33))),(zn (.store 1 (.t 34) (.t 32)))]) (y26o3 c))
def y26o5 (c:Nat→FuncId):LCode:=(.seq (.sq [(zv 66 0),(zs 67 (.shift 3 (.t 3))),(zs 68 (.load1 false (.t 67))),(zs 69 (.call (.f (c 2)) [(.t 66),(.t 68),zT])),(zs 4 (.mv true (.t 69)))]) .ret)
def y26o6 (c:Nat→FuncId):LCode:=(.seq (.seq (.tree (.rd (zv 55 0) 0 false (.rd (zs 56 (.nilc (.t 55))) 1 false (.rd (zs 57 (.shift 6 (.t 56))) 2 false (.rd (zs 58 (.load1 false (.t 57))) 3 false (.rd (zs 59 (.len .map (.t 58))) 4 false (.rd (zv 60 0) 5 false (.rd (zs 61 (.nilc (.t 60))) 6 false (.rd (zs 62 (.shift 4 (.t 61))) 7 false (.rd (zs 63 (.load1 false (.t 62))) 8 false (.rd (zs 64 (.len .sl (.t 63))) 9 false (.rd (zs 65 (.bin .lss .sc (.t 59) (.t 64))) 10 false .done)))))))))))) (.cond (.t 65) (.seq (.sq [(zs 4 (.mv true (.c .nilS)))]) .ret) .skip)) (y26o5 c))
def y26o7 (c:Nat→FuncId):LCode:=(.seq (.tree (.rd (zv 45 0) 0 true (.rd (zv 46 0) 1 false (.rd (zs 47 (.nilc (.t 46))) 2 false (.rd (zs 48 (.shift 8 (.t 47))) 3 false (.rd (zs 49 (.loadA 2 (.t 48))) 4 false (.rd (zs 50 (.shift 5 (.t 3))) 5 false (.rd (zs 51 (.loadA 2 (.t 50))) 6 false (.mv (zs 52 (.call (.f (c 3)) [(.t 49),(.t 51)])) [1,2,3,4,5,6] (.rd (zs 53 (.nilc (.t 45))) 8 false (.rd (zs 54 (.shift 8 (.t 53))) 9 false (.mv (zn (.store 2 (.t 54) (.t 52))) [0,1,2,3,4,5,6,7,8,9] .done .stop))) .stop))))))))) (y26o6 c))
def y26o8 (c:Nat→FuncId):LCode:=(.seq (.seq (.tree (.rd (zs 11 (.shift 43 (.t 3))) 0 false (.rd (zs 12 (.load1 false (.t 11))) 1 false (.rd (zs 13 (.un .not (.t 12))) 2 false (.rd (zv 14 13) 3 false (.rd (zf 15 14 (.shift 5 (.t 3))) 4 false (.rd (zf 16 14 (.loadA 2 (.t 15))) 5 false (.mv (zf 17 14 (.call (.f (c 0)) [(.t 16)])) [0,1,2,3,4,5] (.rd (zf 18 14 (.un .not (.t 17))) 7 false (.rd (zs 19 (.pick (.t 14) zT (.t 18))) 8 false (.rd (zv 20 19) 9 false (.rd (zf 21 20 (.shift 5 (.t 3))) 10 false (.rd (zf 22 20 (.loadA 2 (.t 21))) 11 false (.rd (zf 23 20 (.mv false (.t 0))) 12 false (.rd (zf 24 20 (.nilc (.t 23))) 13 false (.rd (zf 25 20 (.shift 0 (.t 24))) 14 false (.rd (zf 26 20 (.loadA 2 (.t 25))) 15 false (.mv (zf 27 20 (.call (.f (c 1)) [(.t 22),(.t 26)])) [0,1,2,3,4,5,6,7,8,9,10,11,12,13,14,15] (.rd (zf 28 20 (.bin .leq .sc (.t 27) (zi 0))) 17 false (.rd (zs 29 (.pick (.t 20) zT (.t 28))) 18 false .done)) .stop)))))))))) .stop)))))))) (.cond (.t 29) (y26o4 c) .skip)) (y26o7 c))
def y26o9 (c:Nat→FuncId):LCode:=(.seq (.tree (.rd (zv 5 0) 0 false (.rd (zs 6 (.nilc (.t 5))) 1 false (.rd (zs 7 (.shift 6 (.t 6))) 2 false (.rd (zs 8 (.load1 false (.t 7))) 3 false (.rd (zs 9 (.shift 1 (.t 3))) 4 false (.rd (zs 10 (.load1 false (.t 9))) 5 false (.mv (zn (.upd (.one (.int .i64)) (.t 8) (.t 10) zT)) [0,1,2,3,4,5] .done .stop)))))))) (y26o8 c))
def Uz3 (c:Nat→FuncId):=PLift.up (zc (zc (zc (@unfC _ _ (y26o1.eq_1 c)) (@unfC _ _ (y26o2.eq_1 c))) (zc (@unfC _ _ (y26o3.eq_1 c)) (@unfC _ _ (y26o4.eq_1 c)))) (zc (zc (@unfC _ _ (y26o5.eq_1 c)) (@unfC _ _ (y26o6.eq_1 c))) (zc (@unfC _ _ (y26o7.eq_1 c)) (zc (@unfC _ _ (y26o8.eq_1 c)) (@unfC _ _ (y26o9.eq_1 c))))))
def Cz2 (c:Nat→FuncId):LFn:=⟨70,[.t 4],(.seq (.sq [(zs 3 (.box false false (.t 1))),(zs 4 (.mv true (.c .nilS)))]) (y26o9 c))⟩
def y26p1 (c:Nat→FuncId):LCode:=(.seq (.sq [(zv 45 5),(zs 46 (.loadA 45 (.t 3))),(zs 47 (.call (.f (c 1)) [(.t 45),(.t 46)])),(zs 4 (.mv true (.t 47)))]) .ret)
def y26p2 (c:Nat→FuncId):LCode:=(.sq [(zv 76 5),(zs 77 (.nilc (.t 76))),(zs 78 (.shift 3 (.t 77))),(zn (.store 1 (.t 78) (zi 3)))])
def y26p3 (c:Nat→FuncId):LCode:=(.seq (.tree (.rd (zv 65 5) 0 false (.rd (zs 66 (.nilc (.t 65))) 1 false (.rd (zs 67 (.shift 6 (.t 66))) 2 false (.rd (zs 68 (.load1 false (.t 67))) 3 false (.rd (zs 69 (.len .map (.t 68))) 4 false (.rd (zv 70 5) 5 false (.rd (zs 71 (.nilc (.t 70))) 6 false (.rd (zs 72 (.shift 4 (.t 71))) 7 false (.rd (zs 73 (.load1 false (.t 72))) 8 false (.rd (zs 74 (.len .sl (.t 73))) 9 false (.rd (zs 75 (.bin .eql .sc (.t 69) (.t 74))) 10 false .done)))))))))))) (.cond (.t 75) (y26p2 c) .skip))
def y26p4 (c:Nat→FuncId):LCode:=(.seq (.tree (.rd (zv 59 5) 0 false (.rd (zs 60 (.nilc (.t 59))) 1 false (.rd (zs 61 (.shift 6 (.t 60))) 2 false (.rd (zs 62 (.load1 false (.t 61))) 3 false (.rd (zs 63 (.shift 1 (.t 3))) 4 false (.rd (zs 64 (.load1 false (.t 63))) 5 false (.mv (zn (.upd (.one (.int .i64)) (.t 62) (.t 64) zT)) [0,1,2,3,4,5] .done .stop)))))))) (y26p3 c))
def y26p5 (c:Nat→FuncId):LCode:=(.seq (.sq [(zs 49 (.shift 0 (.t 3))),(zs 50 (.load1 false (.t 49))),(zs 51 (.bin .eql .sc (.t 50) (zi 9))),(zv 52 51),(zt 53 52 (.mv false (.t 5))),(zt 54 52 (.nilc (.t 53))),(zt 55 52 (.shift 3 (.t 54))),(zt 56 52 (.load1 false (.t 55))),(zt 57 52 (.bin .eql .sc (.t 56) (zi 2))),(zs 58 (.pick (.t 52) (.t 57) zF)),(zs 48 (.mv true (.t 58)))]) (.cond (.t 48) (y26p4 c) .skip))
def y26p6 (c:Nat→FuncId):LCode:=(.seq (.block 0 (.seq (.sq [(zs 35 (.shift 0 (.t 3))),(zs 36 (.load1 false (.t 35))),(zs 37 (.bin .eql .sc (.t 36) (zi 6))),(zv 38 37),(zt 39 38 (.mv false (.t 5))),(zt 40 38 (.nilc (.t 39))),(zt 41 38 (.shift 3 (.t 40))),(zt 42 38 (.load1 false (.t 41))),(zt 43 38 (.bin .eql .sc (.t 42) (zi 1))),(zs 44 (.pick (.t 38) (.t 43) zF)),(zs 34 (.mv true (.t 44)))]) (.cond (.t 34) (y26p1 c) (y26p5 c)))) (.seq (.sq [(zs 4 (.mv true (.c .nilS)))]) .ret))
def y26p7 (c:Nat→FuncId):LCode:=(.seq (.seq (.tree (.rd (zv 13 5) 0 false (.rd (zs 14 (.bin .eql (.ref 0) (.t 13) (.c .nilP))) 1 false (.rd (zv 15 14) 2 false (.rd (zf 16 15 (.mv false (.t 5))) 3 false (.rd (zf 17 15 (.nilc (.t 16))) 4 false (.rd (zf 18 15 (.shift 4 (.t 17))) 5 false (.rd (zf 19 15 (.load1 false (.t 18))) 6 false (.rd (zf 20 15 (.shift 1 (.t 3))) 7 false (.rd (zf 21 15 (.load1 false (.t 20))) 8 false (.mv (zf 22 15 (.call (.f (c 0)) [(.t 19),(.t 21)])) [0,1,2,3,4,5,6,7,8] (.rd (zf 23 15 (.un .not (.t 22))) 10 false (.rd (zs 24 (.pick (.t 15) zT (.t 23))) 11 false (.rd (zv 25 24) 12 false (.rd (zf 26 25 (.mv false (.t 5))) 13 false (.rd (zf 27 25 (.nilc (.t 26))) 14 false (.rd (zf 28 25 (.shift 6 (.t 27))) 15 false (.rd (zf 29 25 (.load1 false (.t 28))) 16 false (.rd (zf 30 25 (.shift 1 (.t 3))) 17 false (.rd (zf 31 25 (.load1 false (.t 30))) 18 false (.rd (zf 32 25 (.look (.one (.int .i64)) (.s (.bool false)) false (.t 29) (.t 31))) 19 false (.rd (zs 33 (.pick (.t 25) zT (.t 32))) 20 false .done))))))))))) .stop))))))))))) (.cond (.t 33) (.seq (.sq [(zs 4 (.mv true (.c .nilS)))]) .ret) .skip)) (y26p6 c))
def y26p8 (c:Nat→FuncId):LCode:=(.seq (.tree (.rd (zv 6 0) 0 false (.rd (zs 7 (.nilc (.t 6))) 1 false (.rd (zs 8 (.shift 1 (.t 7))) 2 false (.rd (zs 9 (.load1 false (.t 8))) 3 false (.rd (zs 10 (.shift 3 (.t 3))) 4 false (.rd (zs 11 (.load1 false (.t 10))) 5 false (.rd (zs 12 (.look (.one (.int .i64)) (.s .nilP) false (.t 9) (.t 11))) 6 false (.mv (zs 5 (.mv true (.t 12))) [0,1,2,3,4,5,6] .done .stop))))))))) (y26p7 c))
def Uza (c:Nat→FuncId):=PLift.up (zc (zc (zc (@unfC _ _ (y26p1.eq_1 c)) (@unfC _ _ (y26p2.eq_1 c))) (zc (@unfC _ _ (y26p3.eq_1 c)) (@unfC _ _ (y26p4.eq_1 c)))) (zc (zc (@unfC _ _ (y26p5.eq_1 c)) (@unfC _ _ (y26p6.eq_1 c))) (zc (@unfC _ _ (y26p7.eq_1 c)) (@unfC _ _ (y26p8.eq_1 c)))))
def Cz6 (c:Nat→FuncId):LFn:=⟨79,[.t 4],(.seq (.sq [(zs 3 (.box false false (.t 1))),(zs 4 (.mv true (.c .nilS)))]) (y26p8 c))⟩
def y26q1 (c:Nat→FuncId):LCode:=(.seq (.sq [(zv 28 5),(zv 29 1),(zs 30 (.call (.f (c 0)) [(.t 28),(.t 29)])),(zs 4 (.mv true (.t 30)))]) .ret)
def y26q2 (c:Nat→FuncId):LCode:=(.seq (.seq (.sq [(zv 12 5),(zs 13 (.bin .eql (.ref 0) (.t 12) (.c .nilP))),(zv 14 13),(zf 15 14 (.mv false (.t 5))),(zf 16 14 (.nilc (.t 15))),(zf 17 14 (.shift 3 (.t 16))),(zf 18 14 (.load1 false (.t 17))),(zf 19 14 (.bin .neq .sc (.t 18) (zi 1))),(zf 20 14 (.mv false (.t 19))),(zt 21 20 (.mv false (.t 5))),(zt 22 20 (.nilc (.t 21))),(zt 23 20 (.shift 3 (.t 22))),(zt 24 20 (.load1 false (.t 23))),(zt 25 20 (.bin .neq .sc (.t 24) (zi 2))),(zf 26 14 (.pick (.t 20) (.t 25) zF)),(zs 27 (.pick (.t 14) zT (.t 26)))]) (.cond (.t 27) (.seq (.sq [(zs 4 (.mv true (.c .nilS)))]) .ret) .skip)) (y26q1 c))
def y26q3 (c:Nat→FuncId):LCode:=(.seq (.sq [(zv 6 0),(zs 7 (.nilc (.t 6))),(zs 8 (.shift 1 (.t 7))),(zs 9 (.load1 false (.t 8))),(zv 10 1),(zs 11 (.look (.one (.int .i64)) (.s .nilP) false (.t 9) (.t 10))),(zs 5 (.mv true (.t 11)))]) (y26q2 c))
def Uzt (c:Nat→FuncId):=PLift.up (zc (@unfC _ _ (y26q1.eq_1 c)) (zc (@unfC _ _ (y26q2.eq_1 c)) (@unfC _ _ (y26q3.eq_1 c))))
def Czj (c:Nat→FuncId):LFn:=⟨31,[.t 4],(.seq (.sq [(zs 4 (.mv true (.c .nilS)))]) (y26q3 c))⟩
def y26r1:LCode:=(.seq (.sq [(zs 23 (.build [(.s (.int .i64 0)),(.s (.int .u8 0))] [])),(zn (.store 2 (.t 4) (.t 23))),(zs 5 (.mv true (zi 0))),(zs 6 (.mv true zF))]) .ret)
def y26r2:LCode:=(.seq (.tree (.rd (zv 24 7) 0 false (.rd (zs 25 (.nilc (.t 24))) 1 false (.rd (zs 26 (.shift 8 (.t 25))) 2 false (.rd (zs 27 (.loadA 2 (.t 26))) 3 false (.rd (zv 28 7) 4 true (.rd (zs 29 (.nilc (.t 28))) 5 true (.rd (zs 30 (.shift 10 (.t 29))) 6 true (.rd (zs 31 (.load1 false (.t 30))) 7 true (.mv (zn (.store 2 (.t 4) (.t 27))) [0,1,2,3] (.mv (zs 5 (.mv true (.t 31))) [0,1,2,3,4,5,6,7,8] (.mv (zs 6 (.mv true zT)) [0,1,2,3,4,5,6,7,8,9] .done .stop) .stop) .stop)))))))))) .ret)
def y26r3:LCode:=(.seq (.seq (.sq [(zv 14 7),(zs 15 (.bin .eql (.ref 0) (.t 14) (.c .nilP))),(zv 16 15),(zf 17 16 (.mv false (.t 7))),(zf 18 16 (.nilc (.t 17))),(zf 19 16 (.shift 3 (.t 18))),(zf 20 16 (.load1 false (.t 19))),(zf 21 16 (.bin .neq .sc (.t 20) (zi 3))),(zs 22 (.pick (.t 16) zT (.t 21)))]) (.cond (.t 22) y26r1 .skip)) y26r2)
def y26r4:LCode:=(.seq (.sq [(zv 8 0),(zs 9 (.nilc (.t 8))),(zs 10 (.shift 1 (.t 9))),(zs 11 (.load1 false (.t 10))),(zv 12 1),(zs 13 (.look (.one (.int .i64)) (.s .nilP) false (.t 11) (.t 12))),(zs 7 (.mv true (.t 13)))]) y26r3)
def Uz1k:=PLift.up (zc (zc (@unfC _ _ (y26r1.eq_1)) (@unfC _ _ (y26r2.eq_1))) (zc (@unfC _ _ (y26r3.eq_1)) (@unfC _ _ (y26r4.eq_1))))
def Cz10:LFn:=⟨32,[.many 4 2,.t 5,.t 6],(.seq (.sq [(zs 4 (.alloc false [(.s (.int .i64 0)),(.s (.int .u8 0))])),(zs 5 (.mv true (zi 0))),(zs 6 (.mv true zF))]) y26r4)⟩
def y26s1 (c:Nat→FuncId):LCode:=(.seq (.tree (.rd (zv 30 4) 0 false (.rd (zs 31 (.bin .eql .sc (.t 30) (zi 0))) 1 false (.rd (zv 32 31) 2 false (.rd (zt 33 32 (.mv false (.t 5))) 3 false (.rd (zt 34 32 (.bin .eql .sc (.t 33) (zi 0))) 4 false (.rd (zs 35 (.pick (.t 32) (.t 34) zF)) 5 false (.rd (zv 36 35) 6 false (.rd (zt 37 36 (.mv false (.t 7))) 7 false (.rd (zt 38 36 (.bin .eql .sc (.t 37) (zi 0))) 8 false (.rd (zs 39 (.pick (.t 36) (.t 38) zF)) 9 false (.rd (zv 40 39) 10 false (.rd (zt 41 40 (.mv false (.t 6))) 11 false (.rd (zt 42 40 (.len .sl (.t 41))) 12 false (.rd (zt 43 40 (.bin .eql .sc (.t 42) (zi 1))) 13 false (.rd (zs 44 (.pick (.t 40) (.t 43) zF)) 14 false (.rd (zv 45 44) 15 false (.rd (zt 46 45 (.mv false (.t 6))) 16 false (.rd (zt 47 45 (.ixa (.sl 45) (.t 46) (zi 0))) 17 false (.rd (zt 48 45 (.shift 0 (.t 47))) 18 false (.rd (zt 49 45 (.load1 false (.t 48))) 19 false (.rd (zt 50 45 (.bin .eql .sc (.t 49) (zi 5))) 20 false (.rd (zs 51 (.pick (.t 45) (.t 50) zF)) 21 false (.rd (zv 52 51) 22 false (.rd (zt 53 52 (.mv false (.t 6))) 23 false (.rd (zt 54 52 (.ixa (.sl 45) (.t 53) (zi 0))) 24 false (.rd (zt 55 52 (.shift 2 (.t 54))) 25 false (.rd (zt 56 52 (.load1 false (.t 55))) 26 false (.rd (zt 57 52 (.bin .eql .sc (.t 56) (zi 0))) 27 false (.rd (zs 58 (.pick (.t 52) (.t 57) zF)) 28 false (.rd (zv 59 58) 29 false (.rd (zt 60 59 (.mv false (.t 6))) 30 false (.rd (zt 61 59 (.ixa (.sl 45) (.t 60) (zi 0))) 31 false (.rd (zt 62 59 (.shift 1 (.t 61))) 32 false (.rd (zt 63 59 (.load1 false (.t 62))) 33 false (.rd (zt 64 59 (.bin .eql .sc (.t 63) (zi 255))) 34 false (.rd (zs 65 (.pick (.t 59) (.t 64) zF)) 35 false (.rd (zv 66 65) 36 false (.rd (zt 67 66 (.mv false (.t 6))) 37 true (.rd (zt 68 66 (.ixa (.sl 45) (.t 67) (zi 0))) 38 true (.rd (zt 69 66 (.shift 5 (.t 68))) 39 true (.rd (zt 70 66 (.loadA 2 (.t 69))) 40 true (.mv (zt 71 66 (.call (.f (c 3)) [(zi 3)])) [0,1,2,3,4,5,6,7,8,9,10,11,12,13,14,15,16,17,18,19,20,21,22,23,24,25,26,27,28,29,30,31,32,33,34,35,36] (.rd (zt 72 66 (.bin .eql (.leaf [.int .i64,.int .u8]) (.t 70) (.t 71))) 42 false (.rd (zs 73 (.pick (.t 66) (.t 72) zF)) 43 false (.rd (zv 74 73) 44 false (.rd (zt 75 74 (.mv false (.t 6))) 45 false (.rd (zt 76 74 (.ixa (.sl 45) (.t 75) (zi 0))) 46 false (.rd (zt 77 74 (.shift 39 (.t 76))) 47 false (.rd (zt 78 74 (.load1 false (.t 77))) 48 false (.rd (zt 79 74 (.len .sl (.t 78))) 49 false (.rd (zt 80 74 (.bin .eql .sc (.t 79) (zi 1))) 50 false (.rd (zs 81 (.pick (.t 74) (.t 80) zF)) 51 false (.mv (zs 0 (.mv true (.t 81))) [0,1,2,3,4,5,6,7,8,9,10,11,12,13,14,15,16,17,18,19,20,21,22,23,24,25,26,27,28,29,30,31,32,33,34,35,36,37,38,39,40,41,42,43,44,45,46,47,48,49,50,51] .done .stop))))))))))) .stop))))))))))))))))))))))))))))))))))))))))))) .ret)
def y26s2 (c:Nat→FuncId):LCode:=(.seq (.sq [(zv 26 3),(zs 27 (.call (.f (c 6)) [(.t 26),(zi 1)])),(zv 25 27),(zs 28 (.ext (.t 25) 0)),(zs 29 (.ext (.t 25) 1)),(zs 6 (.mv true (.t 28))),(zs 7 (.mv true (.t 29)))]) (y26s1 c))
def y26s3 (c:Nat→FuncId):LCode:=(.seq (.sq [(zv 21 3),(zs 22 (.call (.f (c 0)) [(.c (.str [97]))])),(zs 23 (.build (zk ++ [(.s (.str [])),(.s (.bool false))]) [(0,16,(.t 22)),(16,1,(.c (.str [120])))])),(zs 24 (.call (.f (c 5)) [(.t 21),(zi 1),(.t 23)])),(zs 5 (.mv true (.t 24)))]) (y26s2 c))
def y26s4 (c:Nat→FuncId):LCode:=(.seq (.sq [(zv 18 3),(zs 19 (.call (.f (c 3)) [(zi 3)])),(zs 20 (.call (.f (c 4)) [(.t 18),(zi 1),(.t 19)])),(zs 4 (.mv true (.t 20)))]) (y26s3 c))
def y26s5 (c:Nat→FuncId):LCode:=(.seq (.seq (.sq [(zv 16 3),(zs 17 (.bin .eql (.ref 0) (.t 16) (.c .nilP)))]) (.cond (.t 17) (.seq (.sq [(zs 0 (.mv true zF))]) .ret) .skip)) (y26s4 c))
def y26s6 (c:Nat→FuncId):LCode:=(.seq (.sq [(zv 14 1),(zs 15 (.call (.f (c 2)) [(.t 14)])),(zs 3 (.mv true (.t 15)))]) (y26s5 c))
def y26s7 (c:Nat→FuncId):LCode:=(.seq (.sq [(zs 9 (.call (.f (c 0)) [(.c (.str [109]))])),(zs 10 (.bsl ⟨16,true,16,(.agg zk)⟩ 1 [(0,(.t 9))])),(zs 11 (.call (.f (c 1)) [(.t 10)])),(zv 8 11),(zs 12 (.ext (.t 8) 0)),(zs 13 (.ext (.t 8) 1)),(zs 1 (.mv true (.t 12))),(zs 2 (.mv true (.t 13)))]) (y26s6 c))
def Uzc (c:Nat→FuncId):=PLift.up (zc (zc (@unfC _ _ (y26s1.eq_1 c)) (zc (@unfC _ _ (y26s2.eq_1 c)) (@unfC _ _ (y26s3.eq_1 c)))) (zc (zc (@unfC _ _ (y26s4.eq_1 c)) (@unfC _ _ (y26s5.eq_1 c))) (zc (@unfC _ _ (y26s6.eq_1 c)) (@unfC _ _ (y26s7.eq_1 c)))))
def Cz5 (c:Nat→FuncId):LFn:=⟨82,[.t 0],(.seq (.sq [(zs 0 (.mv true zF))]) (y26s7 c))⟩
def y26t1:LCode:=(.sq [(zv 26 3),(zs 27 (.bin .add .sc (.t 26) (zi 1))),(zs 3 (.mv true (.t 27)))])
def y26t2:LCode:=(.seq (.block 1 (.seq (.sq [(zs 28 (.shift 39 (.t 1))),(zs 29 (.load1 false (.t 28))),(zv 30 3),(zs 31 (.ixa (.sl 18) (.t 29) (.t 30))),(zs 32 (.shift 16 (.t 31))),(zs 33 (.load1 false (.t 32))),(zs 34 (.len .str (.t 33))),(zs 35 (.bin .gtr .sc (.t 34) (zi 250)))]) (.cond (.t 35) (.seq (.sq [(zs 2 (.mv true zT))]) .ret) .skip))) y26t1)
def y26t3:LCode:=(.seq (.seq (.sq [(zv 21 3),(zs 22 (.shift 39 (.t 1))),(zs 23 (.load1 false (.t 22))),(zs 24 (.len .sl (.t 23))),(zs 25 (.bin .lss .sc (.t 21) (.t 24)))]) (.cond (.t 25) .skip (.exit 0))) y26t2)
def y26t4:LCode:=(.block 0 (.loop (zm false [1,1,1,1,47]) y26t3))
def y26t5:LCode:=(.sq [(zv 41 4),(zs 42 (.bin .add .sc (.t 41) (zi 1))),(zs 4 (.mv true (.t 42)))])
def y26t6:LCode:=(.seq (.block 3 (.seq (.sq [(zs 43 (.shift 40 (.t 1))),(zs 44 (.load1 false (.t 43))),(zv 45 4),(zs 46 (.ixa (.sl 17) (.t 44) (.t 45))),(zs 47 (.shift 16 (.t 46))),(zs 48 (.load1 false (.t 47))),(zs 49 (.len .str (.t 48))),(zs 50 (.bin .gtr .sc (.t 49) (zi 250)))]) (.cond (.t 50) (.seq (.sq [(zs 2 (.mv true zT))]) .ret) .skip))) y26t5)
def y26t7:LCode:=(.seq (.seq (.sq [(zv 36 4),(zs 37 (.shift 40 (.t 1))),(zs 38 (.load1 false (.t 37))),(zs 39 (.len .sl (.t 38))),(zs 40 (.bin .lss .sc (.t 36) (.t 39)))]) (.cond (.t 40) .skip (.exit 2))) y26t6)
def y26t8:LCode:=(.block 2 (.loop (zm false [1,1,2,1,46]) y26t7))
def y26t9:LCode:=(.seq (.seq (.sq [(zs 4 (.mv true (zi 0)))]) y26t8) (.seq (.sq [(zs 2 (.mv true zF))]) .ret))
def y26t10:LCode:=(.seq (.seq (.sq [(zs 5 (.shift 39 (.t 1))),(zs 6 (.load1 false (.t 5))),(zs 7 (.len .sl (.t 6))),(zs 8 (.bin .gtr .sc (.t 7) (zi 20))),(zv 9 8),(zf 10 9 (.shift 40 (.t 1))),(zf 11 9 (.load1 false (.t 10))),(zf 12 9 (.len .sl (.t 11))),(zf 13 9 (.bin .gtr .sc (.t 12) (zi 20))),(zs 14 (.pick (.t 9) zT (.t 13))),(zv 15 14),(zf 16 15 (.shift 41 (.t 1))),(zf 17 15 (.load1 false (.t 16))),(zf 18 15 (.len .str (.t 17))),(zf 19 15 (.bin .gtr .sc (.t 18) (zi 250))),(zs 20 (.pick (.t 15) zT (.t 19)))]) (.cond (.t 20) (.seq (.sq [(zs 2 (.mv true zT))]) .ret) .skip)) (.seq (.seq (.sq [(zs 3 (.mv true (zi 0)))]) y26t4) y26t9))
def Uz4:=PLift.up (zc (zc (zc (@unfC _ _ (y26t1.eq_1)) (@unfC _ _ (y26t2.eq_1))) (zc (@unfC _ _ (y26t3.eq_1)) (zc (@unfC _ _ (y26t4.eq_1)) (@unfC _ _ (y26t5.eq_1))))) (zc (zc (@unfC _ _ (y26t6.eq_1)) (@unfC _ _ (y26t7.eq_1))) (zc (@unfC _ _ (y26t8.eq_1)) (zc (@unfC _ _ (y26t9.eq_1)) (@unfC _ _ (y26t10.eq_1))))))
def Cz1e:LFn:=⟨51,[.t 2],(.seq (.sq [(zs 1 (.box false false (.t 0))),(zs 2 (.mv true zF))]) y26t10)⟩
def y26v1 (c:Nat→FuncId):LCode:=(.sq [(zv 73 12),(zv 74 2),(zv 75 13),(zs 76 (.ixa (.sl 18) (.t 74) (.t 75))),(zs 77 (.loadA 18 (.t 76))),(zs 78 (.call (.f (c 4)) [(.t 73),(zi 1),(.t 77)]))])
def y26v2 (c:Nat→FuncId):LCode:=(.sq [(zv 65 13),(zs 66 (.bin .add .sc (.t 65) (zi 1))),(zs 13 (.mv true (.t 66)))])
def y26v3 (c:Nat→FuncId):LCode:=(.seq (.block 1 (.seq (.sq [(zv 67 11),(zv 68 2),(zv 69 13),(zs 70 (.ixa (.sl 18) (.t 68) (.t 69))),(zs 71 (.loadA 18 (.t 70))),(zs 72 (.call (.f (c 4)) [(.t 67),(zi 1),(.t 71)]))]) (y26v1 c))) (y26v2 c))
def y26v4 (c:Nat→FuncId):LCode:=(.seq (.seq (.sq [(zv 61 13),(zv 62 2),(zs 63 (.len .sl (.t 62))),(zs 64 (.bin .lss .sc (.t 61) (.t 63)))]) (.cond (.t 64) .skip (.exit 0))) (y26v3 c))
def y26v5 (c:Nat→FuncId):LCode:=(.block 0 (.loop (zm false [2,2,7,3,160]) (y26v4 c)))
def y26v6 (c:Nat→FuncId):LCode:=(.sq [(zv 97 17),(zs 98 (.bin .add .sc (.t 97) (zi 1))),(zs 17 (.mv true (.t 98)))])
def y26v7 (c:Nat→FuncId):LCode:=(.seq (.block 3 (.seq (.tree (.rd (zv 99 14) 0 false (.rd (zv 100 17) 1 false (.rd (zs 101 (.ixa (.sl 45) (.t 99) (.t 100))) 2 false (.rd (zs 102 (.loadA 45 (.t 101))) 3 false (.rd (zv 103 16) 4 false (.rd (zv 104 17) 5 false (.rd (zs 105 (.ixa (.sl 45) (.t 103) (.t 104))) 6 false (.rd (zs 106 (.loadA 45 (.t 105))) 7 false (.mv (zs 107 (.call (.f (c 7)) [(.t 102),(.t 106)])) [0,1,2,3,4,5,6,7] (.rd (zs 108 (.un .not (.t 107))) 9 false .done) .stop)))))))))) (.cond (.t 108) (.seq (.sq [(zs 8 (.mv true zF))]) .ret) .skip))) (y26v6 c))
def y26v8 (c:Nat→FuncId):LCode:=(.seq (.seq (.sq [(zv 93 17),(zv 94 14),(zs 95 (.len .sl (.t 94))),(zs 96 (.bin .lss .sc (.t 93) (.t 95)))]) (.cond (.t 96) .skip (.exit 2))) (y26v7 c))
def y26v9 (c:Nat→FuncId):LCode:=(.block 2 (.loop (zm false [3,1,7,2,1,1,1,2,156]) (y26v8 c)))
def y26v10 (c:Nat→FuncId):LCode:=(.seq (.sq [(zs 152 (.loadA 2 (.t 19))),(zs 153 (.loadA 2 (.t 22))),(zs 154 (.bin .neq (.leaf [.int .i64,.int .u8]) (.t 152) (.t 153))),(zv 155 154),(zf 156 155 (.mv false (.t 20))),(zf 157 155 (.mv false (.t 23))),(zf 158 155 (.bin .neq .sc (.t 156) (.t 157))),(zs 159 (.pick (.t 155) zT (.t 158))),(zv 160 159),(zf 161 160 (.mv false (.t 21))),(zf 162 160 (.mv false (.t 24))),(zf 163 160 (.bin .neq .bl (.t 161) (.t 162))),(zs 164 (.pick (.t 160) zT (.t 163))),(zv 165 164),(zf 166 165 (.mv false (.t 11))),(zf 167 165 (.call (.f (c 6)) [(.t 166),(zi 1)])),(zf 168 165 (.len .sl (.t 167))),(zf 169 165 (.mv false (.t 12))),(zf 170 165 (.call (.f (c 6)) [(.t 169),(zi 1)])),(zf 171 165 (.len .sl (.t 170))),(zf 172 165 (.bin .neq .sc (.t 168) (.t 171))),(zs 173 (.pick (.t 165) zT (.t 172)))]) (.cond (.t 173) (.seq (.sq [(zs 8 (.mv true zF))]) .ret) .skip))
def y26v11 (c:Nat→FuncId):LCode:=(.seq (.sq [(zv 147 12),(zs 148 (.call (.f (c 10)) [(.t 147),(zi 1)])),(zv 146 148),(zs 149 (.ext (.t 146) 0)),(zs 150 (.ext (.t 146) 1)),(zs 151 (.ext (.t 146) 2)),(zs 22 (.alloc false [(.s (.int .i64 0)),(.s (.int .u8 0))])),(zn (.store 2 (.t 22) (.t 149))),(zs 23 (.mv true (.t 150))),(zs 24 (.mv true (.t 151)))]) (y26v10 c))
def y26v12 (c:Nat→FuncId):LCode:=(.seq (.sq [(zv 141 11),(zs 142 (.call (.f (c 10)) [(.t 141),(zi 1)])),(zv 140 142),(zs 143 (.ext (.t 140) 0)),(zs 144 (.ext (.t 140) 1)),(zs 145 (.ext (.t 140) 2)),(zs 19 (.alloc false [(.s (.int .i64 0)),(.s (.int .u8 0))])),(zn (.store 2 (.t 19) (.t 143))),(zs 20 (.mv true (.t 144))),(zs 21 (.mv true (.t 145)))]) (y26v11 c))
def y26v13 (c:Nat→FuncId):LCode:=(.seq (.seq (.sq [(zv 132 12),(zv 133 3),(zv 134 18),(zs 135 (.ixa (.sl 45) (.t 133) (.t 134))),(zs 136 (.loadA 45 (.t 135))),(zs 137 (.call (.f (c 9)) [(.t 132),(.t 136)])),(zs 138 (.len .sl (.t 137))),(zs 139 (.bin .neq .sc (.t 138) (zi 0)))]) (.cond (.t 139) (.seq (.sq [(zs 8 (.mv true zF))]) .ret) .skip)) (y26v12 c))
def y26v14 (c:Nat→FuncId):LCode:=(.seq (.sq [(zv 126 12),(zv 127 3),(zv 128 18),(zs 129 (.ixa (.sl 45) (.t 127) (.t 128))),(zs 130 (.loadA 45 (.t 129))),(zs 131 (.call (.f (c 9)) [(.t 126),(.t 130)]))]) (y26v13 c))
def y26v15 (c:Nat→FuncId):LCode:=(.seq (.sq [(zv 120 11),(zv 121 3),(zv 122 18),(zs 123 (.ixa (.sl 45) (.t 121) (.t 122))),(zs 124 (.loadA 45 (.t 123))),(zs 125 (.call (.f (c 9)) [(.t 120),(.t 124)]))]) (y26v14 c))
def y26v16 (c:Nat→FuncId):LCode:=(.sq [(zv 113 18),(zs 114 (.bin .add .sc (.t 113) (zi 1))),(zs 18 (.mv true (.t 114)))])
def y26v17 (c:Nat→FuncId):LCode:=(.seq (.block 5 (.seq (.seq (.sq [(zv 115 3),(zv 116 18),(zs 117 (.ixa (.sl 45) (.t 115) (.t 116))),(zs 118 (.loadA 45 (.t 117))),(zs 119 (.call (.f (c 8)) [(.t 118)]))]) (.cond (.t 119) (.seq (.sq [(zs 8 (.mv true zT))]) .ret) .skip)) (y26v15 c))) (y26v16 c))
def y26v18 (c:Nat→FuncId):LCode:=(.seq (.seq (.sq [(zv 109 18),(zv 110 3),(zs 111 (.len .sl (.t 110))),(zs 112 (.bin .lss .sc (.t 109) (.t 111)))]) (.cond (.t 112) .skip (.exit 4))) (y26v17 c))
def y26v19 (c:Nat→FuncId):LCode:=(.block 4 (.loop (zm false [3,1,7,2,5,1,155]) (y26v18 c)))
def y26v20 (c:Nat→FuncId):LCode:=(.seq (.seq (.sq [(zs 18 (.mv true (zi 0)))]) (y26v19 c)) (.seq (.sq [(zs 8 (.mv true zT))]) .ret))
def y26v21 (c:Nat→FuncId):LCode:=(.seq (.seq (.sq [(zs 17 (.mv true (zi 0)))]) (y26v9 c)) (y26v20 c))
def y26v22 (c:Nat→FuncId):LCode:=(.seq (.seq (.sq [(zv 88 16),(zs 89 (.len .sl (.t 88))),(zv 90 14),(zs 91 (.len .sl (.t 90))),(zs 92 (.bin .neq .sc (.t 89) (.t 91)))]) (.cond (.t 92) (.seq (.sq [(zs 8 (.mv true zF))]) .ret) .skip)) (y26v21 c))
def y26v23 (c:Nat→FuncId):LCode:=(.seq (.sq [(zv 86 11),(zs 87 (.call (.f (c 6)) [(.t 86),(zi 1)])),(zs 16 (.mv true (.t 87)))]) (y26v22 c))
def y26v24 (c:Nat→FuncId):LCode:=(.seq (.sq [(zv 84 12),(zs 85 (.call (.f (c 5)) [(.t 84),(zi 1)]))]) (y26v23 c))
def y26v25 (c:Nat→FuncId):LCode:=(.seq (.sq [(zv 80 11),(zs 81 (.call (.f (c 5)) [(.t 80),(zi 1)])),(zv 79 81),(zs 82 (.ext (.t 79) 0)),(zs 83 (.ext (.t 79) 1)),(zs 14 (.mv true (.t 82))),(zs 15 (.mv true (.t 83)))]) (y26v24 c))
def y26v26 (c:Nat→FuncId):LCode:=(.seq (.seq (.sq [(zs 13 (.mv true (zi 0)))]) (y26v5 c)) (y26v25 c))
def y26v27 (c:Nat→FuncId):LCode:=(.seq (.seq (.sq [(zv 51 11),(zs 52 (.loadA 2 (.t 5))),(zs 53 (.call (.f (c 3)) [(.t 51),(zi 1),(.t 52)])),(zs 54 (.bin .neq .sc (.t 53) (zi 0))),(zv 55 54),(zf 56 55 (.mv false (.t 12))),(zf 57 55 (.loadA 2 (.t 5))),(zf 58 55 (.call (.f (c 3)) [(.t 56),(zi 1),(.t 57)])),(zf 59 55 (.bin .neq .sc (.t 58) (zi 0))),(zs 60 (.pick (.t 55) zT (.t 59)))]) (.cond (.t 60) (.seq (.sq [(zs 8 (.mv true zT))]) .ret) .skip)) (y26v26 c))
def y26v28 (c:Nat→FuncId):LCode:=(.seq (.sq [(zv 47 9),(zs 48 (.call (.f (c 2)) [(.t 47)])),(zv 49 9),(zs 50 (.call (.f (c 2)) [(.t 49)])),(zs 11 (.mv true (.t 48))),(zs 12 (.mv true (.t 50)))]) (y26v27 c))
def y26v29 (c:Nat→FuncId):LCode:=(.seq (.seq (.sq [(zv 45 10),(zs 46 (.bin .neq .sc (.t 45) (zi 0)))]) (.cond (.t 46) (.seq (.sq [(zs 8 (.mv true zT))]) .ret) .skip)) (y26v28 c))
def y26v30 (c:Nat→FuncId):LCode:=(.seq (.sq [(zs 41 (.mv true (.t 0))),(zs 42 (.call (.f (c 1)) [(.t 41)])),(zv 40 42),(zs 43 (.ext (.t 40) 0)),(zs 44 (.ext (.t 40) 1)),(zs 9 (.mv true (.t 43))),(zs 10 (.mv true (.t 44)))]) (y26v29 c))
def y26v31 (c:Nat→FuncId):LCode:=(.seq (.seq (.sq [(zv 27 0),(zs 28 (.len .sl (.t 27))),(zs 29 (.bin .gtr .sc (.t 28) (zi 7))),(zv 30 29),(zf 31 30 (.mv false (.t 2))),(zf 32 30 (.len .sl (.t 31))),(zf 33 30 (.bin .gtr .sc (.t 32) (zi 16))),(zs 34 (.pick (.t 30) zT (.t 33))),(zv 35 34),(zf 36 35 (.mv false (.t 3))),(zf 37 35 (.len .sl (.t 36))),(zf 38 35 (.bin .gtr .sc (.t 37) (zi 30))),(zs 39 (.pick (.t 35) zT (.t 38)))]) (.cond (.t 39) (.seq (.sq [(zs 8 (.mv true zT))]) .ret) .skip)) (y26v30 c))
def y26v32 (c:Nat→FuncId):LCode:=(.seq (.seq (.sq [(zs 25 (.call (.f (c 0)) [])),(zs 26 (.un .not (.t 25)))]) (.cond (.t 26) (.seq (.sq [(zs 8 (.mv true zF))]) .ret) .skip)) (y26v31 c))
def Uz1 (c:Nat→FuncId):=PLift.up (zc (zc (zc (zc (zc (@unfC _ _ (y26v1.eq_1 c)) (@unfC _ _ (y26v2.eq_1 c))) (zc (@unfC _ _ (y26v3.eq_1 c)) (@unfC _ _ (y26v4.eq_1 c)))) (zc (zc (@unfC _ _ (y26v5.eq_1 c)) (@unfC _ _ (y26v6.eq_1 c))) (zc (@unfC _ _ (y26v7.eq_1 c)) (@unfC _ _ (y26v8.eq_1 c))))) (zc (zc (zc (@unfC _ _ (y26v9.eq_1 c)) (@unfC _ _ (y26v10.eq_1 c))) (zc (@unfC _ _ (y26v11.eq_1 c)) (@unfC _ _ (y26v12.eq_1 c)))) (zc (zc (@unfC _ _ (y26v13.eq_1 c)) (@unfC _ _ (y26v14.eq_1 c))) (zc (@unfC _ _ (y26v15.eq_1 c)) (@unfC _ _ (y26v16.eq_1 c)))))) (zc (zc (zc (zc (@unfC _ _ (y26v17.eq_1 c)) (@unfC _ _ (y26v18.eq_1 c))) (zc (@unfC _ _ (y26v19.eq_1 c)) (@unfC _ _ (y26v20.eq_1 c)))) (zc (zc (@unfC _ _ (y26v21.eq_1 c)) (@unfC _ _ (y26v22.eq_1 c))) (zc (@unfC _ _ (y26v23.eq_1 c)) (@unfC _ _ (y26v24.eq_1 c))))) (zc (zc (zc (@unfC _ _ (y26v25.eq_1 c)) (@unfC _ _ (y26v26.eq_1 c))) (zc (@unfC _ _ (y26v27.eq_1 c)) (@unfC _ _ (y26v28.eq_1 c)))) (zc (zc (@unfC _ _ (y26v29.eq_1 c)) (@unfC _ _ (y26v30.eq_1 c))) (zc (@unfC _ _ (y26v31.eq_1 c)) (@unfC _ _ (y26v32.eq_1 c)))))))
def Cz0 (c:Nat→FuncId):LFn:=⟨174,[.t 8],(.seq (.sq [(zs 5 (.box false false (.t 1))),(zs 8 (.mv true zF))]) (y26v32 c))⟩
end Go.AM
namespace Go.AM
open Go
set_option maxRecDepth 20000
def y11e1:LCode:=(.seq (.sq [(zs 5 (.bsl ⟨18,true,40,(.agg (zk ++ [(.s (.str [])),(.s (.bool false))]))⟩ 0 [])),(zv 6 0),(zs 7 (.app ⟨18,true,40,(.agg (zk ++ [(.s (.str [])),(.s (.bool false))]))⟩ false (.t 5) (.t 6))),(zs 2 (.mv true (.t 7)))]) .ret)
def y11e2:LCode:=(.seq (.seq (.sq [(zv 3 0),(zs 4 (.bin .eql (.ref 1) (.t 3) (.c .nilS)))]) (.cond (.t 4) (.seq (.sq [(zs 2 (.mv true (.c .nilS)))]) .ret) .skip)) y11e1)
def Uz1b:=PLift.up (zc (@unfC _ _ (y11e1.eq_1)) (@unfC _ _ (y11e2.eq_1)))
def Cz1c:LFn:=⟨8,[.t 2],(.seq (.sq [(zs 2 (.mv true (.c .nilS)))]) y11e2)⟩
def y11q1:LCode:=(.seq (.sq [(zv 3 0),(zs 4 (.build [(.s (.int .i64 0)),(.s (.int .u8 0))] [(0,1,(.t 3))])),(zn (.store 2 (.t 2) (.t 4)))]) .ret)
def Uz39:=PLift.up (@unfC _ _ (y11q1.eq_1))
def Cz1s:LFn:=⟨5,[.many 2 2],(.seq (.sq [(zs 2 (.alloc false [(.s (.int .i64 0)),(.s (.int .u8 0))]))]) y11q1)⟩
end Go.AM
namespace Go.AM
open Go
theorem find_no:∀(es:List Entry) (l:List Key) (k:Key) (i:Nat),es.map (·.key)=l.map kA→k∉l→findL (.leaf lk) (.agg (bs k.b)) es i=some none
  | [],l,k,i,_,_=>rfl
  | e :: es,[],k,i,h,_=>by simp at h
  | e :: es,a :: l,k,i,h,hk=>by
    simp only [List.map_cons,List.cons.injEq] at h
    have hne:¬(k=a):=fun e=>hk (by rw [e]; simp)
    have hq:keyEqL (.leaf lk) (.agg (bs k.b)) e.key=some false:=by
      rw [h.1]
      simp only [keyEqL,KK.fits,kA,fits_k,and_self,if_true,AV.beq,beq_kk,hne,decide_false]
    rw [findL,hq]
    exact find_no es l k (i + 1) h.2 (fun m=>hk (List.mem_cons_of_mem _ m))
theorem find_yes:∀(es:List Entry) (l:List Key) (k:Key) (i:Nat),es.map (·.key)=l.map kA→k∈l→∃j e,es[j]? = some e∧l[j]? = some k∧findL (.leaf lk) (.agg (bs k.b)) es i=some (some (i + j,e))
  | [],l,k,i,h,hk=>by cases l with
    | nil=>simp at hk
    | cons=>simp at h
  | e :: es,[],k,i,h,_=>by simp at h
  | e :: es,a :: l,k,i,h,hk=>by
    simp only [List.map_cons,List.cons.injEq] at h
    by_cases hne:k=a
    · subst hne
      have hq:keyEqL (.leaf lk) (.agg (bs k.b)) e.key=some true:=by
        rw [h.1]
        simp only [keyEqL,KK.fits,kA,fits_k,and_self,if_true,AV.beq,beq_kk,decide_true]
      refine ⟨0,e,rfl,rfl,?_⟩
      rw [findL,hq]; rfl
    · have hq:keyEqL (.leaf lk) (.agg (bs k.b)) e.key=some false:=by
        rw [h.1]
        simp only [keyEqL,KK.fits,kA,fits_k,and_self,if_true,AV.beq,beq_kk,hne,decide_false]
      have hk':k∈l:=by
        rcases List.mem_cons.1 hk with h | h
        · exact absurd h hne
        · exact h
      obtain ⟨j,e',h1,h2,h3⟩:=find_yes es l k (i + 1) h.2 hk'
      refine ⟨j + 1,e',h1,h2,?_⟩
      rw [findL,hq]
      show findL (.leaf lk) (.agg (bs k.b)) es (i + 1)=_
      rw [h3]
      congr 3; omega
def seenE (l:List Key):List Entry:=l.zipIdx.map fun p=>⟨kA p.1,.bool true,p.2⟩
theorem seenE_keys (l:List Key):(seenE l).map (·.key)=l.map kA:=by
  unfold seenE
  rw [List.map_map]
  have:((fun x:Entry=>x.key) ∘ fun p:Key×Nat=>(⟨kA p.1,.bool true,p.2⟩:Entry))=kA ∘ Prod.fst:=rfl
  rw [this,←List.map_map,List.zipIdx_map_fst]
theorem seenE_snoc (l:List Key) (k:Key):seenE (l ++ [k])=seenE l ++ [⟨kA k,.bool true,l.length⟩]:=by
  unfold seenE
  rw [List.zipIdx_append]; simp
theorem seenE_val {l:List Key} {j:Nat} {e:Entry} (h:(seenE l)[j]? = some e):e.val = .bool true:=by
  unfold seenE at h
  rw [List.getElem?_map] at h
  cases hz:l.zipIdx[j]? with
  | none=>rw [hz] at h; simp at h
  | some p=>rw [hz] at h; simp at h; rw [←h]
theorem look_seen {S:List (List AV)} {H:List HObj} {l:List Key} {k:Key} {n:Nat}:lookupL (.leaf lk) (.s (.bool false)) false (.map H.length) (.agg (bs k.b)) ⟨S,H ++ [.map (seenE l) n]⟩=some (.s (.bool (decide (k∈l)))):=by
  have hm:mapOf ⟨S,H ++ [.map (seenE l) n]⟩ (.map H.length)=some (seenE l,n):=by simp [mapOf]
  simp only [lookupL,KK.fits,fits_k,if_true,hm]
  by_cases h:k∈l
  · obtain ⟨j,e,h1,h2,h3⟩:=find_yes _ _ k 0 (seenE_keys l) h
    rw [h3]
    simp [seenE_val h1,h]
  · rw [find_no _ _ k 0 (seenE_keys l) h]
    simp [h]
theorem upd_seen {S:List (List AV)} {H:List HObj} {l:List Key} {k:Key} {n:Nat} (h:k∉l) (hn:l.length=n):updateL (.leaf lk) (.map H.length) (.agg (bs k.b)) (.s (.bool true)) ⟨S,H ++ [.map (seenE l) n]⟩=some ⟨S,H ++ [.map (seenE (l ++ [k])) (n + 1)]⟩:=by
  subst hn
  have hm:mapOf ⟨S,H ++ [.map (seenE l) l.length]⟩ (.map H.length)=some (seenE l,l.length):=by simp [mapOf]
  simp only [updateL,KK.fits,fits_k,AV.under,and_self,if_true,hm]
  rw [find_no _ _ k 0 (seenE_keys l) h]
  simp only [setMap,app_set0,List.set_cons_zero,seenE_snoc,List.length_append,List.length_cons,List.length_nil]
  rfl
def sgood (seen:List Key):List Wr→Bool
  | []=>true
  | w :: l=>if goodK w.key=false then false else if w.key∈seen then false else if 200 < w.val.length then false else if w.gone=true∧w.val≠[] then false else sgood (seen ++ [w.key]) l
end Go.AM
namespace Go.AM
open Go
set_option maxRecDepth 20000
end Go.AM
namespace Go.AM
open Go
set_option maxRecDepth 20000
end Go.AM
namespace Go.AM
open Go
open AV renaming undef → uu
set_option maxRecDepth 20000
def GoodWS (C:CallW) (f:FuncId):Prop:=∀(l:List Wr) S H (K:AV→St→Prop),l.length≤9223372036854775807→(∀G,K (.bool (sgood [] l)) ⟨S,H ++ G⟩)→C (.fn f) [lstW l] ⟨S,H⟩ K
set_option maxHeartbeats 8000000 in
theorem store_Good_spec {C:CallW} (hC:LeC C C) (P:Program) {c:Nat→FuncId} (h0:BoolK goodK C (c 0)):∀(l:List Wr) S H (K:AV→St→Prop),l.length≤9223372036854775807→(∀G,K (.bool (sgood [] l)) ⟨S,H ++ G⟩)→runL C P (Cz2t c) [lstW l] ⟨S,H⟩ K:=by
  intro l S H K hl hK
  simp only [lstW,Cz2t,A_,simprocAttr,ne_eq,(Uzv _).1]
  refine loop_rule hC (α:=Nat) (fun a=>l.length - a) (fun a=>[uu,uu,uu,.map H.length,uu,uu,uu,.list .sh 18 (l.map wA),.s (.int .i64 l.length),.s (.int .i64 a),uu,uu,uu,uu,uu,uu,uu,uu,uu,uu,uu,uu,uu,uu,uu,uu,uu,uu,uu,uu,uu,uu,uu,uu,uu,uu,uu,uu,uu,uu,uu,uu]) (fun _=>S) (fun a=>H ++ [.map (seenE ((l.take a).map Wr.key)) a]) (fun a=>a≤l.length∧sgood [] l=sgood ((l.take a).map Wr.key) (l.drop a)) 0 ⟨by simp,by simp⟩ rfl (by simp) rfl (fun a _=>by simp [AV.under,AV.under.go]) ?_
  rintro i ⟨hi,hinv⟩ ih
  by_cases h16:i < l.length
  · have hlt:((i:Int) < (l.length:Int)):=by omega
    have hw:IntKind.i64.wrap ((i:Int) + 1)=(i:Int) + 1:=wrap_i64 (by omega) (by omega)
    have htk:(l.take (i + 1)).map Wr.key=(l.take i).map Wr.key ++ [(l[i]).key]:=by rw [List.take_succ_eq_append_getElem h16,List.map_append]; rfl
    rw [List.drop_eq_getElem_cons h16,sgood,←htk] at hinv
    simp only [A_,simprocAttr,ne_eq,(Uzv _).1,hlt,h16]
    refine h0 _ _ _ _ ?_
    cases e1:goodK (l[i]).key with
    | false =>
      rw [if_pos e1] at hinv
      rw [hinv] at hK
      simp only [A_,simprocAttr,ne_eq,(Uzv _).1]
      exact hK _
    | true =>
      rw [if_neg (by simp [e1])] at hinv
      simp only [A_,simprocAttr,ne_eq,(Uzv _).1,look_seen]
      by_cases e2:(l[i]).key∈(l.take i).map Wr.key
      · rw [if_pos e2] at hinv
        rw [hinv] at hK
        simp only [A_,simprocAttr,ne_eq,(Uzv _).1,e2]
        exact hK _
      · rw [if_neg e2] at hinv
        have hup:=upd_seen (S:=S ++ [wc l[i]]) (H:=H) (n:=i) e2 (by simp; omega)
        rw [←htk] at hup
        by_cases e3:200 < (l[i]).val.length
        · have e3':((200:Int) < ((l[i]).val.length:Int)):=by omega
          rw [if_pos e3] at hinv
          rw [hinv] at hK
          simp only [A_,simprocAttr,ne_eq,(Uzv _).1,e2,e3']
          exact hK _
        · have e3':¬((200:Int) < ((l[i]).val.length:Int)):=by omega
          rw [if_neg e3] at hinv
          cases e4:(l[i]).gone with
          | false =>
            rw [if_neg (by simp [e4])] at hinv
            simp only [A_,simprocAttr,ne_eq,(Uzv _).1,e2,e3',e4,hup,hw]
            exact ih (i + 1) _ _ _ (by omega) ⟨by omega,hinv⟩ rfl (by simp) rfl
          | true =>
            by_cases e5:(l[i]).val=[]
            · rw [if_neg (by simp [e5])] at hinv
              have e5':=eq_true e5
              simp only [A_,simprocAttr,ne_eq,(Uzv _).1,e2,e3',e4,e5',hup,hw]
              exact ih (i + 1) _ _ _ (by omega) ⟨by omega,hinv⟩ rfl (by simp) rfl
            · rw [if_pos ⟨e4,e5⟩] at hinv
              rw [hinv] at hK
              simp only [A_,simprocAttr,ne_eq,(Uzv _).1,e2,e3',e4,e5]
              exact hK _
  · have hlt:¬((i:Int) < (l.length:Int)):=by omega
    rw [List.drop_of_length_le (by omega)] at hinv
    rw [hinv] at hK
    simp only [A_,simprocAttr,ne_eq,(Uzv _).1,hlt]
    exact hK _
end Go.AM
namespace Go.AM
open Go
set_option maxRecDepth 20000
end Go.AM
namespace Go.AM
open Go
set_option maxRecDepth 20000
end Go.AM
namespace Go.AM
open Go
set_option maxRecDepth 20000
end Go.AM
namespace Go.AM
open Go
set_option maxRecDepth 20000
end Go.AM
namespace Go.AM
open Go
set_option maxRecDepth 20000
def restLe (a b:Rd):Prop:=∀q,b=some q→∃p,a=some p∧q.length≤p.length
theorem restLe.refl (a:Rd):restLe a a:=fun q h=>⟨q,h,Nat.le_refl _⟩
theorem restLe.trans {a b c:Rd} (h:restLe a b) (h2:restLe b c):restLe a c:=fun q hq=>by
  obtain ⟨p,hp,hl⟩:=h2 q hq
  obtain ⟨p2,hp2,hl2⟩:=h p hp
  exact ⟨p2,hp2,by omega⟩
end Go.AM
namespace Go.AM
open Go
set_option maxRecDepth 20000
end Go.AM
namespace Go.AM
open Go
set_option maxRecDepth 20000
end Go.AM
namespace Go.AM
open Go
structure Rec where
  kind:Int
  id:Int
  snap:Stp
  stamp:Stp
  writes:List Wr
  yes:Bool
  parts:List Int
  deriving DecidableEq
def pI (n:Int):AV := .s (.int .i64 n)
def lstN (l:List Int):AV := .list .sh 1 (l.map pI)
def okR (r:Rec):Prop:=r.writes.length≤9223372036854775807∧r.parts.length≤9223372036854775807
end Go.AM
namespace Go.AM
open Go
open AV renaming undef → uu
set_option maxRecDepth 20000
def EqWS (C:CallW) (f:FuncId):Prop:=∀(a b:List Wr) S H (K:AV→St→Prop),a.length≤9223372036854775807→b.length≤9223372036854775807→K (.bool (decide (a=b))) ⟨S,H⟩→C (.fn f) [lstW a,lstW b] ⟨S,H⟩ K
theorem Equal_Write_spec {C:CallW} (hC:LeC C C) (P:Program):∀(a b:List Wr) S H (K:AV→St→Prop),a.length≤9223372036854775807→b.length≤9223372036854775807→K (.bool (decide (a=b))) ⟨S,H⟩→runL C P Cz18 [lstW a,lstW b] ⟨S,H⟩ K:=by
  intro a b S H K ha hb hK
  by_cases hl:a.length=b.length
  case neg =>
    have hl':¬((a.length:Int)=(b.length:Int)):=by omega
    rw [decide_eq_false (fun e=>hl (by rw [e]))] at hK
    simp only [lstW,Cz18,A_,simprocAttr,ne_eq,Uzz.1,hl']
    exact hK
  have hl':=eq_true (show ((a.length:Int)=(b.length:Int)) by omega)
  simp only [lstW,Cz18,A_,simprocAttr,ne_eq,Uzz.1,hl']
  refine loop_rule hC (α:=Nat) (fun i=>a.length - i) (fun i=>[.list .sh 18 (a.map wA),.list .sh 18 (b.map wA),uu,uu,uu,uu,uu,uu,uu,uu,uu,uu,.s (.int .i64 a.length),.s (.int .i64 i),uu,uu,uu,uu,uu,uu,uu,uu,uu,uu,uu,uu]) (fun _=>S) (fun _=>H) (fun i=>i≤a.length∧decide (a=b)=decide (a.drop i=b.drop i)) 0 ⟨by simp,by simp⟩ rfl (by simp) rfl (fun a _=>by simp [AV.under,AV.under.go]) ?_
  rintro i ⟨hi,hinv⟩ ih
  by_cases h16:i < a.length
  · have hlt:((i:Int) < (a.length:Int)):=by omega
    have h16':i < b.length:=by omega
    have hw:IntKind.i64.wrap ((i:Int) + 1)=(i:Int) + 1:=wrap_i64 (by omega) (by omega)
    rw [List.drop_eq_getElem_cons h16,List.drop_eq_getElem_cons h16'] at hinv
    by_cases he:a[i]=b[i]
    · have he':=eq_true he
      rw [he] at hinv
      simp only [List.cons.injEq,true_and] at hinv
      simp only [A_,simprocAttr,ne_eq,Uzz.1,hlt,h16,h16',he',hw]
      exact ih (i + 1) _ _ _ (by omega) ⟨by omega,hinv⟩ rfl (by simp) rfl
    · simp only [List.cons.injEq,he,false_and,decide_false] at hinv
      rw [hinv] at hK
      simp only [A_,simprocAttr,ne_eq,Uzz.1,hlt,h16,h16',he]
      exact hK
  · have hlt:¬((i:Int) < (a.length:Int)):=by omega
    rw [List.drop_of_length_le (by omega),List.drop_of_length_le (by omega),decide_eq_true rfl] at hinv
    rw [hinv] at hK
    simp only [A_,simprocAttr,ne_eq,Uzz.1,hlt]
    exact hK
end Go.AM
namespace Go.AM
open Go
set_option maxRecDepth 20000
end Go.AM
namespace Go.AM
open Go
set_option maxRecDepth 20000
end Go.AM
namespace Go.AM
open Go
set_option maxRecDepth 20000
def CmpSS (C:CallW) (f:FuncId):Prop:=∀(a b:Stp),FnS C f [.agg (stc a),.agg (stc b)] (.i (cmpS a b))
end Go.AM
namespace Go.AM
open Go
set_option maxRecDepth 20000
structure Ent where
  id:Int
  snap:Stp
  stamp:Stp
  writes:List Wr
def enc (e:Ent):List AV:=[.s (.int .i64 e.id),.s (.int .i64 e.snap.t),u8 e.snap.n,.s (.int .i64 e.stamp.t),u8 e.stamp.n,.list .sh 18 (e.writes.map wA)]
def WkK (K:AV→St→Prop):AV→St→Prop:=fun v s=>∃b,(b=v∨WkL [v.sh] [b])∧K b s
end Go.AM
namespace Go.AM
open Go
set_option maxRecDepth 20000
set_option linter.unusedSectionVars false
structure KeyK {κ:Type} [DecidableEq κ] (kk:KK) (kf:κ→AV):Prop where
  fits:∀a,kk.fits (kf a)=true
  eq:∀a b,AV.beq (kf a) (kf b)=decide (a=b)
theorem keyK_int:KeyK (.one (.int .i64)) iA:=⟨fun a=>rfl,fun a b=>by simp [iA,AV.beq]⟩
theorem keyK_key:KeyK (.leaf lk) kA:=⟨fun a=>by simp only [KK.fits,kA,fits_k],fun a b=>by simp only [kA,AV.beq,beq_kk]⟩
section
variable {κ β:Type} [DecidableEq κ] {kk:KK} {kf:κ→AV} {kp:β→κ} {vf:β→AV}
def RelM (kf:κ→AV) (kp:β→κ) (vf:β→AV) (es:List Entry) (l:List β):Prop:=es.map (fun e=>(e.key,e.val))=l.map fun x=>(kf (kp x),vf x)
structure MapG (kf:κ→AV) (kp:β→κ) (vf:β→AV) (es:List Entry) (c:Nat) (l:List β):Prop where
  rel:RelM kf kp vf es l
  nd:(es.map (·.born)).Nodup
  lt:∀e∈es,e.born < c
def getB (kp:β→κ) (l:List β) (k:κ):Option β:=l.find? fun x=>decide (kp x=k)
theorem find_none (hK:KeyK kk kf):∀{es:List Entry} {l:List β} {k:κ} {i:Nat},RelM kf kp vf es l→(∀x∈l,kp x≠k)→findL kk (kf k) es i=some none
  | [],[],k,i,_,_=>rfl
  | [],x :: l,k,i,h,_=>by cases h
  | e :: es,[],k,i,h,_=>by cases h
  | e :: es,x :: l,k,i,h,hk=>by
    unfold RelM at h
    simp only [List.map_cons,List.cons.injEq,Prod.mk.injEq] at h
    have hq:keyEqL kk (kf k) e.key=some false:=by
      rw [h.1.1]
      simp only [keyEqL,hK.fits,and_self,if_true,hK.eq]
      rw [decide_eq_false fun e=>hk x List.mem_cons_self e.symm]
    rw [findL,hq]
    exact find_none hK h.2 fun y hy=>hk y (List.mem_cons_of_mem _ hy)
theorem find_some (hK:KeyK kk kf):∀{es:List Entry} {l:List β} {k:κ} {x:β} {i:Nat},RelM kf kp vf es l→getB kp l k=some x→∃j e,j < l.length∧l[j]? = some x∧es[j]? = some e∧e.val=vf x∧kp x=k∧(∀m,m < j→∀y,l[m]? = some y→kp y≠k)∧findL kk (kf k) es i=some (some (i + j,e))
  | [],[],k,x,i,_,h2=>by cases h2
  | [],y :: l,k,x,i,h,_=>by cases h
  | e :: es,[],k,x,i,h,_=>by cases h
  | e :: es,y :: l,k,x,i,h,h2=>by
    unfold RelM at h
    simp only [List.map_cons,List.cons.injEq,Prod.mk.injEq] at h
    unfold getB at h2
    rw [List.find?_cons] at h2
    by_cases hy:kp y=k
    · rw [decide_eq_true hy] at h2
      have hxy:y=x:=by simpa using h2
      subst hxy
      have hq:keyEqL kk (kf k) e.key=some true:=by
        rw [h.1.1]
        simp only [keyEqL,hK.fits,and_self,if_true,hK.eq]
        rw [decide_eq_true hy.symm]
      refine ⟨0,e,by simp,rfl,rfl,h.1.2,hy,fun m hm=>by omega,?_⟩
      rw [findL,hq]; rfl
    · rw [decide_eq_false hy] at h2
      have hq:keyEqL kk (kf k) e.key=some false:=by
        rw [h.1.1]
        simp only [keyEqL,hK.fits,and_self,if_true,hK.eq]
        rw [decide_eq_false fun e=>hy e.symm]
      obtain ⟨j,e',q1,q2,q3,q4,q5,q6,q7⟩:=find_some hK (i:=i + 1) h.2 h2
      refine ⟨j + 1,e',by simpa using q1,by simpa using q2,by simpa using q3,q4,q5,fun m hm z hz => ?_,?_⟩
      · cases m with
        | zero => have : y = z := by simpa using hz
                  subst this; exact hy
        | succ m=>exact q6 m (by omega) z (by simpa using hz)
      · rw [findL,hq]
        show findL kk (kf k) es (i + 1)=_
        rw [q7]
        congr 3; omega
theorem getB_none {l:List β} {k:κ} (h:getB kp l k=none):∀x∈l,kp x≠k:=by
  unfold getB at h
  rw [List.find?_eq_none] at h
  exact fun x hx e=>h x hx (decide_eq_true e)
def lookR (vf:β→AV) (z:AV) (ok:Bool):Option β→AV
  | some x=>if ok then .tup [vf x,.bool true] else vf x
  | none=>if ok then .tup [z,.bool false] else z
theorem map_look (hK:KeyK kk kf) {S:List (List AV)} {H:List HObj} {h c:Nat} {es:List Entry} {l:List β} {k:κ} {z:AV} {ok:Bool} (hm:H[h]? = some (.map es c)) (hR:RelM kf kp vf es l):lookupL kk z ok (.map h) (kf k) ⟨S,H⟩=some (lookR vf z ok (getB kp l k)):=by
  have hmo:mapOf ⟨S,H⟩ (.map h)=some (es,c):=by simp [mapOf,hm]
  simp only [lookupL,hK.fits,if_true,hmo]
  cases hg:getB kp l k with
  | none=>rw [find_none hK hR (getB_none hg)]; rfl
  | some x =>
    obtain ⟨j,e,q1,q2,q3,q4,q5,q6,q7⟩:=find_some hK (i:=0) hR hg
    rw [q7]
    simp only [q4,lookR]
theorem map_new (hK:KeyK kk kf) {S:List (List AV)} {H:List HObj} {h c:Nat} {es:List Entry} {l:List β} {k:κ} {v:AV} (hm:H[h]? = some (.map es c)) (hR:RelM kf kp vf es l) (hk:∀x∈l,kp x≠k) (hv:AV.under 0 v=true):updateL kk (.map h) (kf k) v ⟨S,H⟩=some ⟨S,H.set h (.map (es ++ [⟨kf k,v,c⟩]) (c + 1))⟩:=by
  have hmo:mapOf ⟨S,H⟩ (.map h)=some (es,c):=by simp [mapOf,hm]
  simp only [updateL,hK.fits,hv,and_self,if_true,hmo,find_none hK hR hk]
  rfl
theorem MapG.new {es:List Entry} {c:Nat} {l:List β} {x:β} (h:MapG kf kp vf es c l):MapG kf kp vf (es ++ [⟨kf (kp x),vf x,c⟩]) (c + 1) (l ++ [x]):=by
  obtain ⟨h1,h2,h3⟩:=h
  refine ⟨?_,?_,?_⟩
  · unfold RelM at h1 ⊢
    rw [List.map_append,List.map_append,h1]; rfl
  · rw [List.map_append,List.nodup_append]
    refine ⟨h2,by simp,fun a ha b hb => ?_⟩
    simp only [List.map_cons,List.map_nil,List.mem_singleton] at hb
    rw [List.mem_map] at ha
    obtain ⟨e,he,rfl⟩:=ha
    have:=h3 e he
    omega
  · intro e he
    rcases List.mem_append.1 he with he | he
    · have:=h3 e he; omega
    · simp only [List.mem_singleton] at he; subst he; exact Nat.lt_succ_self _
theorem MapG.del (hK:KeyK kk kf) {H:List HObj} {h c:Nat} {es:List Entry} {l:List β} {k:κ} (hm:H[h]? = some (.map es c)) (hG:MapG kf kp vf es c l) (hnd:(l.map kp).Nodup):∃es',(∀S:List (List AV),deleteL kk (.map h) (kf k) ⟨S,H⟩=some ⟨S,H.set h (.map es' c)⟩)∧MapG kf kp vf es' c (l.filter fun x=>decide (kp x≠k)):=by
  have hmo:∀S,mapOf ⟨S,H⟩ (.map h)=some (es,c):=fun S=>by simp [mapOf,hm]
  obtain ⟨hR,h2,h3⟩:=hG
  simp only [deleteL,hK.fits,if_true,hmo]
  cases hg:getB kp l k with
  | none =>
    refine ⟨es,fun S=>by rw [find_none hK hR (getB_none hg)]; rfl,?_,h2,h3⟩
    rw [List.filter_eq_self.2 fun x hx=>decide_eq_true (getB_none hg x hx)]
    exact hR
  | some x =>
    obtain ⟨j,e,q1,q2,q3,q4,q5,q6,q7⟩:=find_some hK (i:=0) hR hg
    refine ⟨es.eraseIdx j,fun S=>by rw [q7,Nat.zero_add]; rfl,?_,?_,?_⟩
    · have hf:l.filter (fun x=>decide (kp x≠k))=l.eraseIdx j:=by
        rw [List.eraseIdx_eq_take_drop_succ]
        have hl:l=l.take j ++ l[j] :: l.drop (j + 1):=by rw [List.getElem_cons_drop,List.take_append_drop]
        have hx:l[j]=x:=by rw [List.getElem?_eq_getElem q1] at q2; exact Option.some.inj q2
        conv=>lhs; rw [hl]
        rw [List.filter_append,List.filter_cons,hx,if_neg (by simp [q5])]
        congr 1
        · refine List.filter_eq_self.2 fun y hy=>decide_eq_true ?_
          obtain ⟨m,hm,rfl⟩:=List.mem_iff_getElem.1 hy
          rw [List.length_take] at hm
          rw [List.getElem_take]
          exact q6 m (by omega) _ (List.getElem?_eq_getElem (by omega))
        · refine List.filter_eq_self.2 fun y hy=>decide_eq_true ?_
          obtain ⟨m,hm,rfl⟩:=List.mem_iff_getElem.1 hy
          rw [List.length_drop] at hm
          rw [List.getElem_drop]
          intro hy2
          have h5:=List.pairwise_iff_getElem.1 hnd j (j + 1 + m) (by simpa using q1) (by simp; omega) (by omega)
          rw [List.getElem_map,List.getElem_map,hx,q5,hy2] at h5
          exact h5 rfl
      rw [hf]
      unfold RelM at hR ⊢
      rw [List.eraseIdx_eq_take_drop_succ,List.eraseIdx_eq_take_drop_succ,List.map_append,List.map_append,List.map_take,List.map_take,List.map_drop,List.map_drop,hR]
    · exact h2.sublist ((List.eraseIdx_sublist es j).map _)
    · exact fun e he=>h3 e ((List.eraseIdx_sublist es j).mem he)
end
end Go.AM
namespace Go.AM
open Go
set_option maxRecDepth 20000
def entA (e:Ent):AV := .agg (enc e)
def holV (p:Key×Int):AV:=iA p.2
structure TabH (H:List HObj) (h h1 h2:Nat) (tb:List Ent) (hl:List (Key×Int)):Prop where
  n1:h≠h1
  n2:h≠h2
  n12:h1≠h2
  at0:H[h]? = some (.cells [.map h1,.map h2])
  at1:∃es c,H[h1]? = some (.map es c)∧MapG iA Ent.id entA es c tb
  at2:∃es c,H[h2]? = some (.map es c)∧MapG kA Prod.fst holV es c hl
def Ext (H H':List HObj) (h1 h2:Nat):Prop:=H.length≤H'.length∧∀i,i < H.length→i≠h1→i≠h2→H'[i]? = H[i]?
theorem Ext.refl {H:List HObj} {h1 h2:Nat}:Ext H H h1 h2:=⟨Nat.le_refl _,fun _ _ _ _=>rfl⟩
theorem Ext.trans {H H' H'':List HObj} {h1 h2:Nat} (a:Ext H H' h1 h2) (b:Ext H' H'' h1 h2):Ext H H'' h1 h2 :=
  ⟨Nat.le_trans a.1 b.1,fun i hi e1 e2=>(b.2 i (Nat.lt_of_lt_of_le hi a.1) e1 e2).trans (a.2 i hi e1 e2)⟩
theorem Ext.app {H G:List HObj} {h1 h2:Nat}:Ext H (H ++ G) h1 h2:=⟨by simp,fun i hi _ _=>List.getElem?_append_left hi⟩
theorem hlt {H:List HObj} {h:Nat} {o:HObj} (e:H[h]? = some o):h < H.length:=(List.getElem?_eq_some_iff.1 e).1
theorem happ {H G:List HObj} {h:Nat} {o:HObj} (e:H[h]? = some o):(H ++ G)[h]? = some o:=by rw [List.getElem?_append_left (hlt e)]; exact e
theorem hset {H:List HObj} {h j:Nat} {o o':HObj} (hne:j≠h) (e:H[h]? = some o):(H.set j o')[h]? = some o:=by rw [List.getElem?_set_ne hne]; exact e
theorem hself {H:List HObj} {h:Nat} {o o':HObj} (e:H[h]? = some o):(H.set h o')[h]? = some o':=by rw [List.getElem?_set_self (hlt e)]
theorem TabH.app {H G:List HObj} {h h1 h2:Nat} {tb:List Ent} {hl:List (Key×Int)} (t:TabH H h h1 h2 tb hl):TabH (H ++ G) h h1 h2 tb hl:=by
  obtain ⟨n1,n2,n12,a0,⟨e1,c1,a1,g1⟩,⟨e2,c2,a2,g2⟩⟩:=t
  exact ⟨n1,n2,n12,happ a0,⟨e1,c1,happ a1,g1⟩,⟨e2,c2,happ a2,g2⟩⟩
def cloneW (l:List Wr) (v:AV):Prop:=v = .list .uniq 18 (l.map wA)∨(l=[]∧(v = .nilS∨v = .list .full 18 []))
theorem cloneW_wk {l:List Wr} {v:AV} (h:cloneW l v):WkL [v.sh] [lstW l]:=by
  rcases h with rfl | ⟨rfl,rfl | rfl⟩
  · exact .same .nil
  · exact .nilS (by omega) .nil
  · exact .full .nil
def CloneWS (C:CallW) (f:FuncId):Prop:=∀(l:List Wr) S H (K:AV→St→Prop),l.length≤1000000→K (lstW l) ⟨S,H⟩→C (.fn f) [lstW l] ⟨S,H⟩ K
set_option maxHeartbeats 1000000 in
theorem slices_CloneW_spec {C:CallW} (hC:LeC C C) (P:Program):∀(l:List Wr) S H (K:AV→St→Prop),l.length≤1000000→(∀v,cloneW l v→K v ⟨S,H⟩)→runL C P Cz1c [lstW l] ⟨S,H⟩ K:=by
  intro l S H K hl hK
  have he:∀(e:ET) (σ:St),e.c=18→elemsL e (.list .sh 18 (l.map wA)) σ=some (l.map wA):=fun e σ h=>by simp [elemsL,h]
  cases l with
  | nil =>
    simp only [lstW,Cz1c,A_,simprocAttr,ne_eq,Uz1b.1]
    rintro (_ | _)
    · simp only [A_,simprocAttr,ne_eq,Uz1b.1,bslL,appendL,srcL,appItems,elemsL,List.isEmpty_nil,Option.bind_some]
      exact hK _ (.inr ⟨rfl,.inr rfl⟩)
    · simp only [A_,simprocAttr,ne_eq,Uz1b.1]
      exact hK _ (.inr ⟨rfl,.inl rfl⟩)
  | cons k l =>
    have hlow:AV.under.go 0 (l.map wA)=true:=wA_low
    simp only [List.length_cons] at hl
    have hb:(l.length + 1) * 40≤2 ^ 48:=by omega
    simp only [lstW,Cz1c,A_,simprocAttr,ne_eq,Uz1b.1,refEq,bslL,appendL,srcL,appItems,elemsL,List.isEmpty_nil,List.isEmpty_cons,Option.bind_some,hb,Option.map_some,and_self]
    exact hK _ (.inl rfl)
end Go.AM
namespace Go.AM
open Go
set_option maxRecDepth 20000
theorem getB_mem {β κ:Type} [DecidableEq κ] {kp:β→κ} {l:List β} {k:κ} {x:β} (h:getB kp l k=some x):x∈l∧kp x=k:=⟨List.mem_of_find?_eq_some h,by have:=List.find?_some h; exact of_decide_eq_true this⟩
end Go.AM
namespace Go.AM
open Go
set_option maxRecDepth 20000
theorem hsetid {H:List HObj} {h:Nat} {o:HObj} (e:H[h]? = some o):H.set h o=H:=by
  refine List.ext_getElem? fun i => ?_
  by_cases hi:h=i
  · subst hi; rw [List.getElem?_set_self (hlt e),e]
  · rw [List.getElem?_set_ne hi]
end Go.AM
namespace Go.AM
open Go
set_option maxRecDepth 20000
end Go.AM
namespace Go.AM
open Go
set_option maxRecDepth 20000
section
variable {C:CallW} {P:Program} {rd:Bool}
theorem opS_rng {d x l is fr S H K h es c} (hx:seL fr x = .map h) (hm:H[h]? = some (.map es c)):opS C P rd d (.rng x) l is fr ⟨S,H⟩ K=runS C P rd l is (putA d (.ptr (.heap H.length) 0) fr) ⟨S,H ++ [.iter ⟨some h,c,[],c⟩]⟩ K:=by
  have hmo:mapOf ⟨S,H⟩ (.map h)=some (es,c):=by simp [mapOf,hm]
  unfold opS
  rw [show mayb (.rng x) fr=false from rfl]
  simp only [mb]
  unfold doL
  simp only [settledL,settleL,hx,hmo]
theorem opS_nxt {d x l is fr S H K n h es c} {it:IterA} (hx:seL fr x = .ptr (.heap n) 0) (hi:H[n]? = some (.iter it)) (hp:it.map=some h) (hm:H[h]? = some (.map es c)):opS C P rd d (.nxt x) l is fr ⟨S,H⟩ K=((it.seen=[]∨es=[]∨∃e∈es,e.born < it.stepped)∧((∀e∈es,e.born∈it.seen∨it.since≤e.born)→runS C P rd l is (putA d (.tup [.bool false]) fr) ⟨S,H⟩ K)∧∀e∈es,e.born∉it.seen→runS C P rd l is (putA d (.tup [.bool true,e.key,e.val]) fr) ⟨S,H.set n (.iter { it with seen:=it.seen ++ [e.born],stepped:=c })⟩ K):=by
  have hmo:mapOf ⟨S,H⟩ (.map h)=some (es,c):=by simp [mapOf,hm]
  have hio:iterOf ⟨S,H⟩ (.ptr (.heap n) 0)=some (n,it):=by simp [iterOf,hi]
  unfold opS
  rw [show mayb (.nxt x) fr=false from rfl]
  simp only [mb]
  unfold doL
  simp only [settledL,settleL,hx,hio,hp,hmo]
  rfl
theorem opS_ent {d x l is fr S H K n h es c b} {e:Entry} {it:IterA} (hx:seL fr x = .ptr (.heap n) 0) (hi:H[n]? = some (.iter it)) (hp:it.map=some h) (hm:H[h]? = some (.map es c)) (hb:it.seen.getLast? = some b) (hc:c=it.stepped) (hf:es.find? (fun e=>e.born == b)=some e):opS C P rd d (.ent x) l is fr ⟨S,H⟩ K=runS C P rd l is (putA d (.tup [e.key,e.val]) fr) ⟨S,H⟩ K:=by
  have hmo:mapOf ⟨S,H⟩ (.map h)=some (es,c):=by simp [mapOf,hm]
  have hio:iterOf ⟨S,H⟩ (.ptr (.heap n) 0)=some (n,it):=by simp [iterOf,hi]
  unfold opS
  rw [show mayb (.ent x) fr=false from rfl]
  simp only [mb]
  unfold doL
  simp only [settledL,settleL,hx,hio,hp,hb,hmo,hf]
  simp [hc]
end
theorem born_find {es:List Entry} (hnd:(es.map (·.born)).Nodup) {e:Entry} (he:e∈es):es.find? (fun x=>x.born == e.born)=some e:=by
  induction es with
  | nil=>cases he
  | cons y es ih =>
    rw [List.map_cons,List.nodup_cons] at hnd
    rw [List.find?_cons]
    rcases List.mem_cons.1 he with rfl | he
    · simp
    · have:(y.born == e.born)=false:=by
        cases hq:(y.born == e.born) with
        | false=>rfl
        | true =>
          have hq:y.born=e.born:=by simpa using hq
          exact absurd (List.mem_map.2 ⟨e,he,hq.symm⟩) hnd.1
      rw [this]
      exact ih hnd.2 he
end Go.AM
namespace Go.AM
open Go
set_option maxRecDepth 20000
end Go.AM
namespace Go.AM
open Go
set_option maxRecDepth 20000
structure MapI (H:List HObj) (bx hm c:Nat) (es:List Entry) (x:Entry→Int):Prop where
  box:H[bx]? = some (.cells [.map hm])
  map:H[hm]? = some (.map es c)
  nd:(es.map (·.born)).Nodup
  lt:∀e∈es,e.born < c
  key:∀e∈es,e.key=iA (x e)
  len:es.length≤1000000
end Go.AM
namespace Go.AM
open Go
set_option maxRecDepth 20000
set_option linter.unusedSectionVars false
section
variable {κ β:Type} [DecidableEq κ] {kk:KK} {kf:κ→AV} {kp:β→κ} {vf:β→AV}
def putM (kp:β→κ) (l:List β) (x:β):List β:=match getB kp l (kp x) with
  | some _=>l.map fun y=>if kp y=kp x then x else y
  | none=>l ++ [x]
theorem MapG.upd (hK:KeyK kk kf) {H:List HObj} {h c:Nat} {es:List Entry} {l:List β} {x:β} (hm:H[h]? = some (.map es c)) (hG:MapG kf kp vf es c l) (hnd:(l.map kp).Nodup) (hv:AV.under 0 (vf x)=true):∃es' c',(∀S:List (List AV),updateL kk (.map h) (kf (kp x)) (vf x) ⟨S,H⟩=some ⟨S,H.set h (.map es' c')⟩)∧MapG kf kp vf es' c' (putM kp l x):=by
  unfold putM
  cases hg:getB kp l (kp x) with
  | none =>
    exact ⟨_,_,fun S=>map_new hK (S:=S) (v:=vf x) hm hG.rel (getB_none hg) hv,hG.new⟩
  | some y =>
    have hmo:∀S,mapOf ⟨S,H⟩ (.map h)=some (es,c):=fun S=>by simp [mapOf,hm]
    obtain ⟨hR,h2,h3⟩:=hG
    obtain ⟨j,e,q1,q2,q3,q4,q5,q6,q7⟩:=find_some hK (i:=0) hR hg
    have hlen:es.length=l.length:=by have:=congrArg List.length hR; simpa [RelM] using this
    have hb:(es.set j { e with key:=kf (kp x),val:=vf x }).map (·.born)=es.map (·.born):=by
      refine List.ext_getElem? fun i => ?_
      rw [List.getElem?_map,List.getElem?_map]
      by_cases hi:j=i
      · subst hi
        rw [List.getElem?_set_self (by omega),q3]; rfl
      · rw [List.getElem?_set_ne hi]
    refine ⟨es.set j { e with key:=kf (kp x),val:=vf x },c,fun S => ?_,?_,?_,?_⟩
    · simp only [updateL,hK.fits,hv,and_self,if_true,hmo,q7,Nat.zero_add]; rfl
    · unfold RelM at hR ⊢
      refine List.ext_getElem? fun i => ?_
      have hRi:=congrArg (fun z:List (AV×AV)=>z[i]?) hR
      rw [List.getElem?_map,List.getElem?_map] at hRi ⊢
      rw [List.getElem?_map]
      by_cases hi:j=i
      · subst hi
        rw [List.getElem?_set_self (by omega),q2]
        simp only [Option.map_some,if_pos q5]
      · rw [List.getElem?_set_ne hi,hRi]
        cases hli:l[i]? with
        | none=>rfl
        | some z =>
          have:kp z≠kp x:=by
            intro hz
            have hi2:i < l.length:=(List.getElem?_eq_some_iff.1 hli).1
            have:=List.pairwise_iff_getElem.1 hnd
            have e1:(l.map kp)[j]'(by simpa using q1)=kp x:=by rw [List.getElem_map]; rw [List.getElem?_eq_getElem q1] at q2; rw [Option.some.inj q2]; exact q5
            have e2:(l.map kp)[i]'(by simpa using hi2)=kp x:=by rw [List.getElem_map]; rw [List.getElem?_eq_getElem hi2] at hli; rw [Option.some.inj hli]; exact hz
            rcases Nat.lt_or_gt_of_ne hi with h | h
            · exact this j i (by simpa using q1) (by simpa using hi2) h (e1.trans e2.symm)
            · exact this i j (by simpa using hi2) (by simpa using q1) h (e2.trans e1.symm)
          simp only [Option.map_some,if_neg this]
    · rw [hb]; exact h2
    · intro e' he
      obtain ⟨i,hi,rfl⟩:=List.mem_iff_getElem.1 he
      have hb2:=congrArg (fun z:List Nat=>z[i]?) hb
      rw [List.getElem?_map,List.getElem?_map,List.getElem?_eq_getElem hi] at hb2
      rw [List.length_set] at hi
      rw [List.getElem?_eq_getElem hi] at hb2
      have hb3:((es.set j { e with key:=kf (kp x),val:=vf x })[i]'(by simpa using hi)).born=es[i].born:=Option.some.inj hb2
      rw [hb3]
      exact h3 _ (List.getElem_mem hi)
end
end Go.AM
namespace Go.AM
open Go
open AV renaming undef → uu
set_option maxRecDepth 20000
def ValsSW (C:CallW) (f g:FuncId):Prop:=∀(hm:Nat) S H (K:AV→St→Prop),K (.fn (.func g) [] [.ptr (.heap H.length) 0]) ⟨S,H ++ [.cells [.map hm]]⟩→C (.fn f) [.map hm] ⟨S,H⟩ K
theorem maps_ValuesW_spec {C:CallW} (P:Program) {c:Nat→FuncId}:∀(hm:Nat) S H (K:AV→St→Prop),K (.fn (.func (c 0)) [] [.ptr (.heap H.length) 0]) ⟨S,H ++ [.cells [.map hm]]⟩→runL C P (Cz1q c) [.map hm] ⟨S,H⟩ K:=by
  intro hm S H K hK
  simp only [Cz1q,A_,simprocAttr,ne_eq]
  exact hK
def ValsItW (C:CallW) (g:FuncId):Prop:=∀(G:List Wr→List HObj) (N h bx hm c:Nat) (es:List Entry) (x:Entry→Wr) (S:List (List AV)) (K:AV→St→Prop),(∀acc,(G acc).length=N)→(∀acc,(G acc)[bx]? = some (.cells [.map hm]))→(∀acc,(G acc)[hm]? = some (.map es c))→(es.map (·.born)).Nodup→(∀e∈es,e.born < c)→(∀e∈es,e.val=wA (x e)) →
  (∀acc v it S' (K':AV→St→Prop),acc.length < es.length→K' (.bool true) ⟨S',G (acc ++ [v]) ++ [it]⟩→C (.yield h) [.agg (wc v)] ⟨S',G acc ++ [it]⟩ K')→(∀acc it,acc.Perm (es.map x)→K (.tup []) ⟨S,G acc ++ [it]⟩)→C (.fn g) [.yield h,.ptr (.heap bx) 0] ⟨S,G []⟩ K
set_option maxHeartbeats 4000000 in
theorem maps_ValuesW1_spec {C:CallW} (hC:LeC C C) (P:Program):∀(G:List Wr→List HObj) (N h bx hm c:Nat) (es:List Entry) (x:Entry→Wr) (S:List (List AV)) (K:AV→St→Prop),(∀acc,(G acc).length=N)→(∀acc,(G acc)[bx]? = some (.cells [.map hm]))→(∀acc,(G acc)[hm]? = some (.map es c))→(es.map (·.born)).Nodup→(∀e∈es,e.born < c)→(∀e∈es,e.val=wA (x e)) →
  (∀acc v it S' (K':AV→St→Prop),acc.length < es.length→K' (.bool true) ⟨S',G (acc ++ [v]) ++ [it]⟩→C (.yield h) [.agg (wc v)] ⟨S',G acc ++ [it]⟩ K')→(∀acc it,acc.Perm (es.map x)→K (.tup []) ⟨S,G acc ++ [it]⟩)→runL C P Czd [.yield h,.ptr (.heap bx) 0] ⟨S,G []⟩ K:=by
  intro G N h bx hm c es x S K hN hbx hmp hnd hlt hkey hy hK
  have b0:=hbx []
  simp only [Czd,A_,simprocAttr,ne_eq,Uzk.1,b0]
  rw [opS_rng rfl (hmp [])]
  simp only [Czd,A_,simprocAttr,ne_eq,Uzk.1,hN]
  refine loop_rule hC (α:=List Entry) (fun vs=>es.length - vs.length) (fun vs=>[.yield h,uu,uu,uu,uu,uu,.ptr (.heap N) 0,uu,uu,uu,uu,uu,uu,uu,uu]) (fun _=>S) (fun vs=>G (vs.map x) ++ [.iter ⟨some hm,c,vs.map (·.born),c⟩]) (fun vs=>(vs.map (·.born)).Nodup∧∀e∈vs,e∈es) [] ⟨.nil,fun e h=>by cases h⟩ (by simp [keep,zm]) (by first | rw [List.take_of_length_le (Nat.le_refl _)] | simp) rfl (fun a _=>by simp [AV.under,AV.under.go]) ?_
  rintro vs ⟨hvn,hvs⟩ ih
  have hit:(G (vs.map x) ++ [.iter ⟨some hm,c,vs.map (·.born),c⟩])[N]? = some (.iter ⟨some hm,c,vs.map (·.born),c⟩):=by rw [←hN (vs.map x)]; simp
  have hmm:∀o,(G (vs.map x) ++ [o])[hm]? = some (.map es c):=fun o=>happ (hmp _)
  simp only [Czd,A_,simprocAttr,ne_eq,Uzk.1]
  rw [opS_nxt rfl hit rfl (hmm _)]
  refine ⟨?_,fun hall => ?_,fun e he hns => ?_⟩
  · cases vs with
    | nil=>exact .inl rfl
    | cons v vs=>exact .inr (.inr ⟨v,hvs v List.mem_cons_self,hlt v (hvs v List.mem_cons_self)⟩)
  · have hp:vs.Perm es:=by
      refine (List.perm_ext_iff_of_nodup ?_ ?_).2 fun e=>⟨hvs e,fun he => ?_⟩
      · exact List.Pairwise.of_map (·.born) (fun a b h e=>h (by rw [e])) hvn
      · exact List.Pairwise.of_map (·.born) (fun a b h e=>h (by rw [e])) hnd
      · rcases hall e he with h1 | h1
        · rw [List.mem_map] at h1
          obtain ⟨v,hv,hb⟩:=h1
          have q1:=born_find hnd (hvs v hv)
          have q2:=born_find hnd he
          rw [hb,q2] at q1
          rw [Option.some.inj q1]; exact hv
        · have:=hlt e he
          exact absurd h1 (by dsimp only; omega)
    simp only [Czd,A_,simprocAttr,ne_eq,Uzk.1]
    exact hK _ _ (hp.map x)
  · have hk:=hkey e he
    have hset:∀o o':HObj,(G (vs.map x) ++ [o]).set N o'=G (vs.map x) ++ [o']:=fun o o'=>by rw [←hN (vs.map x)]; simp
    have hit2:(G (vs.map x) ++ [.iter ⟨some hm,c,vs.map (·.born) ++ [e.born],c⟩])[N]? = some (.iter ⟨some hm,c,vs.map (·.born) ++ [e.born],c⟩):=by rw [←hN (vs.map x)]; simp
    dsimp only
    rw [hset]
    have hll:vs.length < es.length:=by
      have hb:((vs ++ [e]).map (·.born)).Nodup:=by
        rw [List.map_append,List.nodup_append]
        exact ⟨hvn,by simp,fun a ha b hb=>by
          have:b=e.born:=by simpa using hb
          subst this
          exact fun e2=>hns (e2▸ha)⟩
      have hnd2:(vs ++ [e]).Nodup:=List.Pairwise.of_map (·.born) (fun a b h e=>h (by rw [e])) hb
      have h1:(vs ++ [e]).length≤es.length:=hnd2.length_le_of_subset fun z hz=>by
        rcases List.mem_append.1 hz with hz | hz
        · exact hvs z hz
        · have:z=e:=by simpa using hz
          rw [this]; exact he
      simp at h1; omega
    simp only [Czd,A_,simprocAttr,ne_eq,Uzk.1]
    rw [opS_ent rfl hit2 rfl (hmm _) (b:=e.born) (by simp) rfl (born_find hnd he),hk]
    simp only [wA,Czd,A_,simprocAttr,ne_eq,Uzk.1,WR_]
    refine hy _ (x e) _ _ _ (by simpa using hll) ?_
    simp only [Czd,A_,simprocAttr,ne_eq,Uzk.1]
    refine ih (vs ++ [e]) _ _ _ (by simp; omega) ⟨?_,fun z hz => ?_⟩ (by simp [keep,zm]) (by first | rw [List.take_of_length_le (Nat.le_refl _)] | simp) (by simp)
    · rw [List.map_append,List.nodup_append]
      exact ⟨hvn,by simp,fun a ha b hb=>by
        have:b=e.born:=by simpa using hb
        subst this
        exact fun e2=>hns (e2▸ha)⟩
    · rcases List.mem_append.1 hz with hz | hz
      · exact hvs z hz
      · have:z=e:=by simpa using hz
        rw [this]; exact he
def slU (l:List Wr):AV:=slG 18 (l.map wA)
theorem slU_nil:slU [] = .s .nilS:=rfl
theorem slU_ne {l:List Wr} (h:l≠[]):slU l = .list .uniq 18 (l.map wA):=if_neg (by simpa using h)
theorem slU_under {n:Nat} {l:List Wr}:AV.under n (slU l)=true:=slG_under
theorem app_slU {e:ET} {l:List Wr} {v:Wr} {σ:St} (h1:e.c=18) (h2:e.bytes=40) (hl:l.length≤1000000):appendL e false (slU l) (.list .full 18 [.agg (wc v)]) σ=some (slU (l ++ [v]),σ):=by
  have h:=app_slG (e:=e) (es:=l.map wA) (a:=wA v) (σ:=σ) wc_under (by rw [List.length_map,h2]; omega)
  rw [h1] at h
  unfold slU
  rw [show (AV.agg (wc v))=wA v from rfl,h,List.map_append]; rfl
theorem load_keptU {S:List (List AV)} {H G:List HObj} {l:List Wr}:load1L true (.ptr (.heap H.length) 0) ⟨S,H ++ .cells [slU l] :: G⟩=some (slU l,⟨S,H ++ .cells [(slU l).left] :: G⟩):=by
  have hb:boxOf ⟨S,H ++ .cells [slU l] :: G⟩ (.heap H.length)=some [slU l]:=by simp [boxOf]
  simp only [load1L,hb,Option.bind_some]
  simp [splice,setBox]
theorem store_keptU {S:List (List AV)} {H G:List HObj} {a:AV} {l:List Wr} (hne:l≠[]):storeUL (.ptr (.heap H.length) 0) (slU l) ⟨S,H ++ .cells [a] :: G⟩=some ⟨S,H ++ .cells [slU l] :: G⟩:=by
  have hb:boxOf ⟨S,H ++ .cells [a] :: G⟩ (.heap H.length)=some [a]:=by simp [boxOf]
  rw [slU_ne hne]
  simp [storeUL,AV.fit,AV.kept,AV.isCell,hb,writeCells,mayHold,AV.under.go,AV.under,splice,setBox]
structure MapWr (H:List HObj) (bx hm c:Nat) (es:List Entry) (x:Entry→Wr):Prop where
  box:H[bx]? = some (.cells [.map hm])
  map:H[hm]? = some (.map es c)
  nd:(es.map (·.born)).Nodup
  lt:∀e∈es,e.born < c
  val:∀e∈es,e.val=wA (x e)
  len:es.length≤1000000
def AppSeqWS (C:CallW) (f g:FuncId):Prop:=∀(bx hm c:Nat) (es:List Entry) (x:Entry→Wr) S H (K:AV→St→Prop),MapWr H bx hm c es x→(∀acc G,acc.Perm (es.map x)→K (slU acc) ⟨S,H ++ G⟩)→C (.fn f) [.s .nilS,.fn (.func g) [] [.ptr (.heap bx) 0]] ⟨S,H⟩ K
set_option maxHeartbeats 4000000 in
theorem AppendSeq_specW {C:CallW} (hC:LeC C C) (P:Program) {c:Nat→FuncId} {as1 bd1:Code} {g:FuncId} (h1:ValsItW C g) (hB:hasBody P g=true) (hR:RoundOK C P (c 0) as1 bd1 (Czp).code (Czq).code):∀(bx hm cc:Nat) (es:List Entry) (x:Entry→Wr) S H (K:AV→St→Prop),MapWr H bx hm cc es x→(∀acc G,acc.Perm (es.map x)→K (slU acc) ⟨S,H ++ G⟩)→runL C P (Czw c as1 bd1) [.s .nilS,.fn (.func g) [] [.ptr (.heap bx) 0]] ⟨S,H⟩ K:=by
  intro bx hm cc es x S H K hM hK
  simp only [Czw,A_,simprocAttr,ne_eq,(Uz19 _ _ _).1,hB]
  refine h1 (fun acc=>H ++ [.cells [slU acc],.loop ⟨c 0,[.s .nilS,.fn (.func g) [] [.ptr (.heap bx) 0],.ptr (.heap H.length) 0,.undef,.s .nilS,.undef,.fn (.func g) [] [.ptr (.heap bx) 0],uu,uu,uu,uu,uu,uu],[7],as1,bd1,true,none⟩]) (H.length + 2) (H.length + 1) bx hm cc es x S _ (fun acc=>by simp) (fun acc=>happ hM.box) (fun acc=>happ hM.map) hM.nd hM.lt hM.val (fun acc v it S' K' hacc hK' => ?_) (fun acc it hp => ?_)
  · have ha:∀(e:ET) (σ:St),e.c=18→e.bytes=40→appendL e false (slU acc) (.list .full 18 [.agg (wc v)]) σ=some (slU (acc ++ [v]),σ):=fun e σ h1 h2=>app_slU h1 h2 (by have:=hM.len; omega)
    have st:=fun {S:List (List AV)} {a:AV} {G:List HObj}=>store_keptU (S:=S) (H:=H) (G:=G) (a:=a) (l:=acc ++ [v]) (by simp)
    have hne:=slU_ne (l:=acc ++ [v]) (by simp)
    rw [List.append_assoc]
    refine hR _ _ _ _ _ _ _ (by rw [app_get]; rfl) rfl ?_
    rw [List.append_assoc] at hK'
    rw [hne] at ha st hK'
    simp only [Czp,Czq,A_,simprocAttr,ne_eq,(Uz19 _ _ _).1,WR_,load_keptU,ha,st]
    exact hK'
  · rw [List.append_assoc]
    simp only [Czw,A_,simprocAttr,ne_eq,(Uz19 _ _ _).1,load_keptU]
    exact ⟨slU_under,hK _ _ hp⟩
theorem u8_in {a b:UInt8} (h:u8 a=u8 b):a=b:=by
  unfold u8 at h
  injection h with h
  injection h with _ h
  exact UInt8.toNat_inj.1 (by omega)
theorem bs_in {a b:List UInt8} (h:bs a=bs b):a=b:=(List.map_inj_right fun _ _=>u8_in).1 h
theorem wA_in {x y:Wr} (h:wA x=wA y):x=y:=by
  unfold wA wc at h
  injection h with h
  obtain ⟨h1,h2⟩:=List.append_inj h (by rw [kc_length,kc_length])
  injection h2 with h2 h3
  injection h2 with h2
  injection h2 with h2
  injection h3 with h3
  injection h3 with h3
  injection h3 with h3
  have hk:x.key=y.key:=Key.ext' (bs_in h1)
  cases x; cases y
  simp_all
theorem cb_zero:∀(x y:List UInt8),Lib.compareBytes x y=0→x=y
  | [],[],_=>rfl
  | [],_ :: _,h=>by simp [Lib.compareBytes] at h
  | _ :: _,[],h=>by simp [Lib.compareBytes] at h
  | a :: x,b :: y,h=>by
    simp only [Lib.compareBytes] at h
    split at h
    · cases h
    · rename_i h1
      split at h
      · cases h
      · rename_i h2
        have:a=b:=by
          have q1:¬(a.toNat < b.toNat):=fun q=>h1 (UInt8.lt_iff_toNat_lt.2 q)
          have q2:¬(b.toNat < a.toNat):=fun q=>h2 (UInt8.lt_iff_toNat_lt.2 q)
          exact UInt8.toNat_inj.1 (by omega)
        rw [this,cb_zero x y h]
theorem cmpK_eq (a b:Key):cmpK a b=0↔a=b:=⟨fun h=>Key.ext' (cb_zero _ _ h),fun h=>by subst h; have:=cmp_flip a a; omega⟩
def CollWS (C:CallW) (f g:FuncId):Prop:=∀(bx hm c:Nat) (es:List Entry) (x:Entry→Wr) S H (K:AV→St→Prop),MapWr H bx hm c es x→(∀acc G,acc.Perm (es.map x)→K (slU acc) ⟨S,H ++ G⟩)→C (.fn f) [.fn (.func g) [] [.ptr (.heap bx) 0]] ⟨S,H⟩ K
theorem Collect_specW {C:CallW} (P:Program) {c:Nat→FuncId} {g:FuncId} (h0:AppSeqWS C (c 0) g):∀(bx hm cc:Nat) (es:List Entry) (x:Entry→Wr) S H (K:AV→St→Prop),MapWr H bx hm cc es x→(∀acc G,acc.Perm (es.map x)→K (slU acc) ⟨S,H ++ G⟩)→runL C P (Cz17 c) [.fn (.func g) [] [.ptr (.heap bx) 0]] ⟨S,H⟩ K:=by
  intro bx hm cc es x S H K hM hK
  simp only [Cz17,A_,simprocAttr,ne_eq,(Uz1z _).1]
  refine h0 bx hm cc es x S H _ hM fun acc G hp => ?_
  simp only [Cz17,A_,simprocAttr,ne_eq,(Uz1z _).1]
  exact ⟨slU_under,hK _ _ hp⟩
def arrW (l:List Wr):Array Wr:=l.toArray
theorem flat_arrW (l:List Wr):(l.map wA).flatMap AV.cells=flat wA (arrW l):=by
  unfold flat arrW
  simp only [List.flatMap_map]
theorem thaw_slU {fr:Fr} {t:Nat} {l:List Wr} {S:List (List AV)} {H:List HObj} (hne:l≠[]) (h:fr.getD t .undef=slU l):AM.thaw fr (.tmp t) ⟨S,H⟩=some (.row (.stk S.length) 0 l.length l.length,fr.set t (.row (.stk S.length) 0 l.length l.length),⟨S ++ [flat wA (arrW l)],H⟩):=by
  unfold AM.thaw
  simp only [h,slU_ne hne]
  rw [if_neg (by simp [hne]),flat_arrW,newBox_stk (flat_low wA_EK _ _)]
  simp
theorem thaw_slU0 {fr:Fr} {t:Nat} {σ:St} (h:fr.getD t .undef=slU []):AM.thaw fr (.tmp t) σ=some (.s .nilS,fr,σ):=by
  unfold AM.thaw
  simp only [h]
  rfl
theorem group_wA {e:ET} (h1:e.c=18) (h2:e.ag=true):∀l:List Wr,groupL e l.length (l.flatMap fun x=>(wA x).cells)=l.map wA
  | []=>rfl
  | x :: l=>by
    have hx:((wA x).cells).length=18:=wc_length x
    rw [List.length_cons,groupL,h1,List.flatMap_cons,List.take_left' hx,List.drop_left' hx,group_wA h1 h2 l]
    simp [packL,h2,wA,AV.cells]
theorem freeze_w {e:ET} {S:List (List AV)} {H:List HObj} {n N:Nat} {d:Array Wr} (h1:e.c=18) (h2:e.ag=true) (hS:S[n]? = some (flat wA d)):freezeL e (.row (.stk n) 0 d.size N) ⟨S,H⟩=some (.list .sh 18 (d.toList.map wA),⟨S.set n [],H⟩):=by
  have hfl:=flat_length wA_EK d
  have hlook:(flat wA d).map AV.look=flat wA d:=by
    unfold flat
    generalize d.toList=l
    induction l with
    | nil=>rfl
    | cons x l ih=>rw [List.flatMap_cons,List.map_append,ih]; congr 1; exact wA_EK.look x
  have hcell:(flat wA d).all AV.isCell=true:=by
    unfold flat
    generalize d.toList=l
    induction l with
    | nil=>rfl
    | cons x l ih =>
      rw [List.flatMap_cons,List.all_append,ih,Bool.and_true]
      exact List.all_eq_true.2 fun c hc=>wc_cell c hc
  have hg:=group_wA h1 h2 d.toList
  rw [Array.length_toList] at hg
  have htk:((flat wA d).drop 0).take (d.size * 18)=flat wA d:=by rw [List.drop_zero,List.take_of_length_le (by omega)]
  unfold freezeL
  simp only [h1,readCells,boxOf_stk,hS,Option.bind_some]
  rw [if_pos ⟨by omega,.inr (by rw [htk,hlook]; exact hcell)⟩]
  simp only [Option.bind_some,htk,hlook]
  rw [if_pos ⟨flat_low wA_EK _ _,by decide,by rw [h2]; rfl⟩]
  unfold flat
  rw [hg]
theorem sorted_wr {R:Array Wr} {n:Nat} (hn:R.size=n) (hk:(R.toList.map Wr.key).Nodup) (h:Sort.SortedIn (ltW cvK) 0 n R):R.toList.Pairwise fun a b=>cmpK a.key b.key < 0:=by
  rw [List.pairwise_iff_getElem]
  intro i j hi hj hij
  have hj':j < R.size:=by simpa using hj
  have hi':i < R.size:=by simpa using hi
  have:=h i j (Nat.zero_le _) hij (by omega)
  rw [get_bang hj',get_bang hi'] at this
  have h1:¬(cmpK (R.toList[j]).key (R.toList[i]).key < 0):=of_decide_eq_false this
  have h2:=cmp_flip (R.toList[i]).key (R.toList[j]).key
  have h3:cmpK (R.toList[i]).key (R.toList[j]).key≠0:=by
    intro e
    have:=(cmpK_eq (R.toList[i]).key (R.toList[j]).key).1 e
    have q:=List.pairwise_iff_getElem.1 hk i j (by simpa using hi) (by simpa using hj) hij
    simp only [List.getElem_map] at q
    exact q this
  omega
theorem sorted_permW {R:Array Wr} {l:List Wr} (h:Sort.PermIn 0 l.length (arrW l) R):R.toList.Perm l:=by
  have hsz:R.size=l.length:=h.1
  have:=h.2.2
  rw [←hsz,Array.extract_size,hsz] at this
  rw [show l.length=(arrW l).size from rfl,Array.extract_size] at this
  exact this
def CvKS (C:CallW) (g:FuncId):Prop:=∀(x y:Wr) S H (K:AV→St→Prop),K (.s (.int .i64 (cvK x y))) ⟨S,H⟩→C (.fn g) [.agg (wc x),.agg (wc y)] ⟨S,H⟩ K
theorem solo_Sorted1_spec {C:CallW} (P:Program) {c:Nat→FuncId} (h0:KCmp C (c 0)):∀(x y:Wr) S H (K:AV→St→Prop),K (.s (.int .i64 (cvK x y))) ⟨S,H⟩→runL C P (Cz1w c) [.agg (wc x),.agg (wc y)] ⟨S,H⟩ K:=by
  intro x y S H K hK
  simp only [Cz1w,A_,simprocAttr,ne_eq,(Uz2v _).1,WR_]
  refine h0 _ _ _ _ _ ?_
  simp only [Cz1w,A_,simprocAttr,ne_eq,(Uz2v _).1]
  exact hK
def SortedWS (C:CallW) (f g k:FuncId):Prop:=∀(bx hm c:Nat) (es:List Entry) (x:Entry→Wr) S H (K:AV→St→Prop),MapWr H bx hm c es x→((es.map x).map Wr.key).Nodup→(∀(L:List Wr) (G:List HObj),L.Perm (es.map x)→L.Pairwise (fun a b=>cmpK a.key b.key < 0)→K (lstW L) ⟨S,H ++ G⟩)→C (.fn f) [.fn (.func g) [] [.ptr (.heap bx) 0],.fn (.func k) [] []] ⟨S,H⟩ K
set_option maxHeartbeats 8000000 in
theorem SortedFunc_specW {C:CallW} (P:Program) {c:Nat→FuncId} {g k:FuncId} (h0:CollWS C (c 0) g) (hk:CvKS C k) (h1:SortFSW C k [] cvK (c 1)) (h1n:SortFNW C (c 1)):∀(bx hm cc:Nat) (es:List Entry) (x:Entry→Wr) S H (K:AV→St→Prop),MapWr H bx hm cc es x→((es.map x).map Wr.key).Nodup→(∀(L:List Wr) (G:List HObj),L.Perm (es.map x)→L.Pairwise (fun a b=>cmpK a.key b.key < 0)→K (lstW L) ⟨S,H ++ G⟩)→runL C P (Cz9 c) [.fn (.func g) [] [.ptr (.heap bx) 0],.fn (.func k) [] []] ⟨S,H⟩ (WkK K):=by
  intro bx hm cc es x S H K hM hnd hK
  have hfz:∀(e:ET) (σ:St),freezeL e (.s .nilS) σ=some (.s .nilS,σ):=fun _ _=>rfl
  simp only [Cz9,A_,simprocAttr,ne_eq,(Uze _).1]
  refine h0 bx hm cc es x S H _ hM fun acc G hp => ?_
  have hal:acc.length≤1000000:=by have:=hp.length_eq; rw [List.length_map] at this; have:=hM.len; omega
  by_cases e:acc=[]
  · subst e
    simp only [Cz9,A_,simprocAttr,ne_eq,(Uze _).1]
    rw [thaw_slU0 rfl]
    simp only [Cz9,A_,simprocAttr,ne_eq,(Uze _).1]
    refine h1n _ _ _ _ _ rfl ?_
    simp only [Cz9,A_,simprocAttr,ne_eq,(Uze _).1,slU_nil,hfz]
    exact ⟨_,.inr (.nilS (by omega) .nil),hK [] G hp .nil⟩
  · simp only [Cz9,A_,simprocAttr,ne_eq,(Uze _).1]
    rw [thaw_slU e rfl]
    have hS1:(S ++ [flat wA (arrW acc)])[S.length]? = some (flat wA (arrW acc)):=by simp
    simp only [Cz9,A_,simprocAttr,ne_eq,(Uze _).1,List.set_cons_zero,List.set_cons_succ]
    refine h1 S.length (arrW acc) _ _ _ ⟨fun _ _=>rfl,fun a b S' K' _ hK'=>hk a b S' _ K' hK'⟩ hS1 (by show acc.length≤_; omega) fun R hR1 hR2 => ?_
    have hRs:R.size=acc.length:=hR1.1
    have hset:∀x y:List AV,(S ++ [x]).set S.length y=S ++ [y]:=fun x y=>by simp
    rw [hset]
    have hS2:(S ++ [flat wA R])[S.length]? = some (flat wA R):=by simp
    have hRp:=(sorted_permW hR1).trans hp
    have hf:∀{e:ET},e.c=18→e.ag=true→freezeL e (.row (.stk S.length) 0 acc.length acc.length) ⟨S ++ [flat wA R],H ++ G⟩=some (.list .sh 18 (R.toList.map wA),⟨S ++ [[]],H ++ G⟩):=fun h1 h2=>by
      rw [←hRs,freeze_w (H:=H ++ G) h1 h2 hS2,hset]
    simp only [Cz9,A_,simprocAttr,ne_eq,(Uze _).1,hf]
    exact ⟨_,.inl rfl,hK R.toList G hRp (sorted_wr hRs ((hRp.map _).nodup_iff.2 hnd) hR2)⟩
structure MapKW (H:List HObj) (hm:Nat) (ws:List Wr):Prop where
  map:∃es c,H[hm]? = some (.map es c)∧MapG kA Wr.key wA es c ws
  nd:(ws.map Wr.key).Nodup
  len:ws.length≤1000
def SoloS (C:CallW) (f:FuncId):Prop:=∀(hm:Nat) (ws:List Wr) S H (K:AV→St→Prop),MapKW H hm ws→(∀(L:List Wr) (G:List HObj),L.Perm ws→L.Pairwise (fun a b=>cmpK a.key b.key < 0)→K (lstW L) ⟨S,H ++ G⟩)→C (.fn f) [.map hm] ⟨S,H⟩ K
theorem solo_Sorted_spec {C:CallW} (P:Program) {c:Nat→FuncId} {g:FuncId} (h0:ValsSW C (c 0) g) (h1:SortedWS C (c 1) g (c 2)):∀(hm:Nat) (ws:List Wr) S H (K:AV→St→Prop),MapKW H hm ws→(∀(L:List Wr) (G:List HObj),L.Perm ws→L.Pairwise (fun a b=>cmpK a.key b.key < 0)→K (lstW L) ⟨S,H ++ G⟩)→runL C P (Cz1u c) [.map hm] ⟨S,H⟩ K:=by
  intro hm ws S H K t hK
  obtain ⟨es,cc,a,g⟩:=t.map
  have hrel:=g.rel
  unfold RelM at hrel
  have hlen:es.length=ws.length:=by have:=congrArg List.length hrel; simpa using this
  have hget:∀j (h1:j < es.length) (h2:j < ws.length),es[j].val=wA ws[j]:=by
    intro j h1 h2
    have:=congrArg (fun z=>z[j]?) hrel
    simp [h1,h2] at this
    exact this.2
  have hx:∀e:Entry,∃w:Wr,e∈es→e.val=wA w:=fun e=>by
    by_cases he:e∈es
    · obtain ⟨j,hj,rfl⟩:=List.mem_iff_getElem.1 he
      exact ⟨_,fun _=>hget j hj (by omega)⟩
    · exact ⟨⟨key0,[],false⟩,fun q=>absurd q he⟩
  obtain ⟨x,hx⟩:∃x:Entry→Wr,∀e∈es,e.val=wA (x e):=⟨fun e=>Classical.choose (hx e),fun e he=>Classical.choose_spec (hx e) he⟩
  have hmap:es.map x=ws:=by
    refine List.ext_getElem (by simpa using hlen) fun j h1 h2 => ?_
    have h1':j < es.length:=by simpa using h1
    rw [List.getElem_map]
    exact wA_in ((hx _ (List.getElem_mem h1')).symm.trans (hget j h1' h2))
  simp only [Cz1u,A_,simprocAttr,ne_eq,(Uz2n _).1]
  refine h0 hm _ _ _ ?_
  simp only [Cz1u,A_,simprocAttr,ne_eq,(Uz2n _).1]
  refine h1 _ hm cc es x _ _ _ ⟨by simp,happ a,g.nd,g.lt,hx,by have:=t.len; omega⟩ (by rw [hmap]; exact t.nd) fun L G hp hs => ?_
  have hK:=hK L (.cells [.map hm] :: G) (by rw [←hmap]; exact hp) hs
  simp only [Cz1u,A_,simprocAttr,ne_eq,(Uz2n _).1]
  exact ⟨rfl,hK⟩
end Go.AM
namespace Go.AM
open Go
set_option maxRecDepth 20000
def y20e1:LCode:=(.cond (.t 16) (.seq (.sq [(zv 17 5),(zs 4 (.mv true (.t 17)))]) .ret) .skip)
def y20e2:LCode:=(.seq (.sq [(zv 11 1),(zv 12 0),(zv 13 5),(zs 14 (.ixa (.sl 1) (.t 12) (.t 13))),(zs 15 (.load1 false (.t 14))),(zs 16 (.bin .eql .sc (.t 11) (.t 15)))]) y20e1)
def y20e3:LCode:=(.seq (.block 1 (.seq (.sq [(zv 10 8),(zs 5 (.mv true (.t 10)))]) y20e2)) (.sq [(zs 18 (.bin .add .sc (.t 8) (zi 1))),(zv 8 18)]))
def y20e4:LCode:=(.block 0 (.loop (zm false [0,2,5,2,10]) (.seq (.sq [(zs 9 (.bin .lss .sc (.t 8) (.t 7)))]) (.seq (.cond (.t 9) .skip (.exit 0)) y20e3))))
def y20e5:LCode:=(.seq (.seq (.sq [(zv 6 0),(zs 7 (.len .sl (.t 6))),(zs 8 (.mv false (zi 0)))]) y20e4) (.seq (.sq [(zs 4 (.mv true (.c (.int .i64 (-1)))))]) .ret))
def Uz1h:=PLift.up (zc (zc (@unfC _ _ (y20e1.eq_1)) (@unfC _ _ (y20e2.eq_1))) (zc (@unfC _ _ (y20e3.eq_1)) (zc (@unfC _ _ (y20e4.eq_1)) (@unfC _ _ (y20e5.eq_1)))))
def Czy:LFn:=⟨19,[.t 4],(.seq (.sq [(zs 4 (.mv true (zi 0)))]) y20e5)⟩
def y20f1 (c:Nat→FuncId):LCode:=(.seq (.sq [(zs 5 (.mv true (.t 0))),(zv 6 1),(zs 7 (.call (.f (c 0)) [(.t 5),(.t 6)])),(zs 8 (.bin .geq .sc (.t 7) (zi 0))),(zs 4 (.mv true (.t 8)))]) .ret)
def Uz1j (c:Nat→FuncId):=PLift.up (@unfC _ _ (y20f1.eq_1 c))
def Czu (c:Nat→FuncId):LFn:=⟨9,[.t 4],(.seq (.sq [(zs 4 (.mv true zF))]) (y20f1 c))⟩
def y20h1 (c:Nat→FuncId):LCode:=(.seq (.seq (.sq [(zs 5 (.loadA 2 (.t 2))),(zs 6 (.loadA 2 (.t 3))),(zs 7 (.call (.f (c 0)) [(.t 5),(.t 6)])),(zs 8 (.bin .lss .sc (.t 7) (zi 0)))]) (.cond (.t 8) (.seq (.sq [(zs 9 (.loadA 2 (.t 3))),(zn (.store 2 (.t 4) (.t 9)))]) .ret) .skip)) (.seq (.sq [(zs 10 (.loadA 2 (.t 2))),(zn (.store 2 (.t 4) (.t 10)))]) .ret))
def Uz3g (c:Nat→FuncId):=PLift.up (@unfC _ _ (y20h1.eq_1 c))
def Cz24 (c:Nat→FuncId):LFn:=⟨11,[.many 4 2],(.seq (.sq [(zs 2 (.box false false (.t 0))),(zs 3 (.box false false (.t 1))),(zs 4 (.alloc false [(.s (.int .i64 0)),(.s (.int .u8 0))]))]) (y20h1 c))⟩
end Go.AM
namespace Go.AM
open Go
set_option maxRecDepth 20000
end Go.AM
namespace Go.AM
open Go
open AV renaming undef → uu
set_option maxRecDepth 20000
theorem ixl_n {l:List Int} {i:Nat} (h:i < l.length) (k:IntKind):indexAddrL (.sl 1) (.list .sh 1 (l.map pI)) (.s (.int k (i:Int)))=some (.rop [.s (.int .i64 l[i])]):=ixl_map h (by omega)
def IdxIS (C:CallW) (f:FuncId):Prop:=∀(l:List Int) (v:Int) S H (K:AV→St→Prop),l.length≤1000000→(∀r:Int,(0≤r↔v∈l)→K (.s (.int .i64 r)) ⟨S,H⟩)→C (.fn f) [lstN l,.s (.int .i64 v)] ⟨S,H⟩ K
set_option maxHeartbeats 4000000 in
theorem Index_int_spec {C:CallW} (hC:LeC C C) (P:Program):∀(l:List Int) (v:Int) S H (K:AV→St→Prop),l.length≤1000000→(∀r:Int,(0≤r↔v∈l)→K (.s (.int .i64 r)) ⟨S,H⟩)→runL C P Czy [lstN l,.s (.int .i64 v)] ⟨S,H⟩ K:=by
  intro l v S H K hl hK
  simp only [lstN,Czy,A_,simprocAttr,ne_eq,Uz1h.1]
  refine loop_rule hC (α:=Nat) (fun a=>l.length - a) (fun a=>[.list .sh 1 (l.map pI),.s (.int .i64 v),uu,uu,uu,uu,uu,.s (.int .i64 l.length),.s (.int .i64 (a:Nat)),uu,uu,uu,uu,uu,uu,uu,uu,uu,uu]) (fun _=>S) (fun a=>H) (fun a=>a≤l.length∧(v∈l↔v∈l.drop a)) 0 ⟨Nat.zero_le _,Iff.rfl⟩ (by simp [keep,zm]) (by simp) rfl (fun a _=>by simp [AV.under,AV.under.go]) ?_
  rintro i ⟨hi,hinv⟩ ih
  by_cases h16:i < l.length
  · have hlt:((i:Int) < (l.length:Int)):=by omega
    have hw:=wrap_succ (i:=i) (by omega)
    have x1:=ixl_n h16
    rw [List.drop_eq_getElem_cons h16,List.mem_cons] at hinv
    by_cases he:v=l[i]
    · have he':(v=l[i])=True:=eq_true he
      simp only [Czy,A_,simprocAttr,ne_eq,Uz1h.1,hlt,x1,he']
      exact hK _ ⟨fun _=>hinv.2 (.inl he),fun _=>by omega⟩
    · have he':(v=l[i])=False:=eq_false he
      simp only [Czy,A_,simprocAttr,ne_eq,Uz1h.1,hlt,x1,he',hw]
      exact ih (i + 1) _ _ _ (by omega) ⟨by omega,hinv.trans ⟨fun h=>h.resolve_left he,.inr⟩⟩ (by simp [keep,zm]) (by simp) rfl
  · have hlt:¬((i:Int) < (l.length:Int)):=by omega
    rw [List.drop_of_length_le (by omega)] at hinv
    simp only [Czy,A_,simprocAttr,ne_eq,Uz1h.1,hlt]
    exact hK _ ⟨fun h=>absurd h (by decide),fun h=>by have:=hinv.1 h; cases this⟩
def ContIS (C:CallW) (f:FuncId):Prop:=∀(l:List Int) (v:Int) S H (K:AV→St→Prop),l.length≤1000000→K (.bool (decide (v∈l))) ⟨S,H⟩→C (.fn f) [lstN l,.s (.int .i64 v)] ⟨S,H⟩ K
theorem Contains_int_spec {C:CallW} (P:Program) {c:Nat→FuncId} (h0:IdxIS C (c 0)):∀(l:List Int) (v:Int) S H (K:AV→St→Prop),l.length≤1000000→K (.bool (decide (v∈l))) ⟨S,H⟩→runL C P (Czu c) [lstN l,.s (.int .i64 v)] ⟨S,H⟩ K:=by
  intro l v S H K hl hK
  simp only [lstN,Czu,A_,simprocAttr,ne_eq,(Uz1j _).1]
  refine h0 l v _ _ _ hl fun r hr => ?_
  by_cases h:v∈l
  · rw [decide_eq_true h] at hK
    have h1:(0≤r)=True:=eq_true (hr.2 h)
    simp only [Czu,A_,simprocAttr,ne_eq,(Uz1j _).1,h1]
    exact hK
  · rw [decide_eq_false h] at hK
    have h1:(0≤r)=False:=eq_false fun q=>h (hr.1 q)
    simp only [Czu,A_,simprocAttr,ne_eq,(Uz1j _).1,h1]
    exact hK
def maxS (a b:Stp):Stp:=if cmpS a b < 0 then b else a
def MaxS (C:CallW) (f:FuncId):Prop:=∀(a b:Stp) S H (K:AV→St→Prop),K (.agg (stc (maxS a b))) ⟨S,H⟩→C (.fn f) [.agg (stc a),.agg (stc b)] ⟨S,H⟩ K
theorem stamp_Max_spec {C:CallW} (P:Program) {c:Nat→FuncId} (h0:CmpSS C (c 0)):∀(a b:Stp) S H (K:AV→St→Prop),K (.agg (stc (maxS a b))) ⟨S,H⟩→runL C P (Cz24 c) [.agg (stc a),.agg (stc b)] ⟨S,H⟩ K:=by
  intro a b S H K hK
  unfold maxS at hK
  simp only [stc,Cz24,A_,simprocAttr,ne_eq,(Uz3g _).1]
  refine h0 a b _ _ _ ?_
  by_cases h:cmpS a b < 0
  · rw [if_pos h] at hK
    simp only [Cz24,A_,simprocAttr,ne_eq,(Uz3g _).1,h]
    exact hK
  · rw [if_neg h] at hK
    simp only [Cz24,A_,simprocAttr,ne_eq,(Uz3g _).1,h]
    exact hK
end Go.AM
namespace Go.AM
open Go
set_option maxRecDepth 20000
def partW (pts:List Key) (l:List Wr) (j:Nat):List Wr:=l.filter fun w=>decide (ofK pts w.key=(j:Int))
def splitC (pts:List Key) (l:List Wr):List AV:=(List.range (pts.length + 1)).map fun j=>slO (partW pts l j)
theorem cnt_le' (k:Key):∀(l:List Key),cntK k l≤l.length
  | []=>Nat.le_refl _
  | p :: l=>by have:=cnt_le' k l; simp only [cntK,List.length_cons]; split <;> omega
theorem splitC_len {pts:List Key} {l:List Wr}:(splitC pts l).length=pts.length + 1:=by simp [splitC]
theorem splitC_nil {pts:List Key}:splitC pts []=List.replicate (pts.length + 1) (.s .nilS):=by
  apply List.ext_getElem
  · simp [splitC]
  · intro i h1 h2
    simp [splitC,partW,slO]
theorem splitC_get {pts:List Key} {l:List Wr} {j:Nat} (h:j < pts.length + 1):(splitC pts l)[j]? = some (slO (partW pts l j)):=by simp [splitC,h]
theorem part_snoc {pts:List Key} {l:List Wr} {w:Wr} {j:Nat}:partW pts (l ++ [w]) j=partW pts l j ++ (if ofK pts w.key=(j:Int) then [w] else []):=by
  unfold partW
  rw [List.filter_append,List.filter_cons,List.filter_nil]
  congr 1
  by_cases h:ofK pts w.key=(j:Int) <;> simp [h]
theorem splitC_snoc {pts:List Key} {l:List Wr} {w:Wr} {n:Nat} (h:ofK pts w.key=(n:Int)) (hn:n < pts.length + 1):(splitC pts l).set n (slO (partW pts l n ++ [w]))=splitC pts (l ++ [w]):=by
  apply List.ext_getElem
  · simp [splitC]
  · intro i h1 h2
    simp only [splitC,List.length_set,List.length_map,List.length_range] at h1
    rw [List.getElem_set]
    simp only [splitC,List.getElem_map,List.getElem_range,part_snoc]
    split
    · rename_i e; subst e; rw [if_pos h]
    · rename_i e
      rw [if_neg (by rw [h]; omega),List.append_nil]
theorem splitC_skip {pts:List Key} {l:List Wr} {w:Wr} (h:ofK pts w.key < 0):splitC pts (l ++ [w])=splitC pts l:=by
  apply List.ext_getElem
  · simp [splitC]
  · intro i h1 h2
    simp only [splitC,List.getElem_map,List.getElem_range,part_snoc]
    rw [if_neg (by omega),List.append_nil]
end Go.AM
namespace Go.AM
open Go
set_option maxRecDepth 20000
def y3a1 (c:Nat→FuncId):LCode:=(.tree (.rd (zv 24 5) 0 true (.rd (zv 25 8) 1 true (.rd (zv 26 5) 2 false (.rd (zv 27 8) 3 false (.rd (zs 28 (.ixa (.sl 1) (.t 26) (.t 27))) 4 false (.rd (zs 30 (.loadA 18 (.t 7))) 6 true (.rd (zs 31 (.bsl ⟨18,true,40,(.agg (zk ++ [(.s (.str [])),(.s (.bool false))]))⟩ 1 [(0,(.t 30))])) 7 true (.mv (zs 29 (.load1 true (.t 28))) [2,3,4] (.mv (zs 32 (.app ⟨18,true,40,(.agg (zk ++ [(.s (.str [])),(.s (.bool false))]))⟩ false (.t 29) (.t 31))) [2,3,4,5,6,7] (.rd (zs 33 (.ixa (.sl 1) (.t 24) (.t 25))) 9 false (.mv (zn (.store 1 (.t 33) (.t 32))) [0,1,2,3,4,5,6,7,8,9] .done .stop)) .stop) .stop)))))))))
def y3a2 (c:Nat→FuncId):LCode:=(.seq (.sq [(zv 22 8),(zs 23 (.bin .geq .sc (.t 22) (zi 0)))]) (.cond (.t 23) (y3a1 c) .skip))
def y3a3 (c:Nat→FuncId):LCode:=(.seq (.sq [(zv 18 0),(zs 19 (.shift 0 (.t 7))),(zs 20 (.loadA 16 (.t 19))),(zs 21 (.call (.f (c 1)) [(.t 18),(.t 20)])),(zs 8 (.mv true (.t 21)))]) (y3a2 c))
def y3a4 (c:Nat→FuncId):LCode:=(.seq (.block 1 (.seq (.sq [(zs 16 (.ixa (.sl 18) (.t 12) (.t 14))),(zs 17 (.loadA 18 (.t 16))),(zs 7 (.alloc false (zk ++ [(.s (.str [])),(.s (.bool false))]))),(zn (.store 18 (.t 7) (.t 17)))]) (y3a3 c))) (.sq [(zs 34 (.bin .add .sc (.t 14) (zi 1))),(zv 14 34)]))
def y3a5 (c:Nat→FuncId):LCode:=(.seq (.sq [(zs 15 (.bin .lss .sc (.t 14) (.t 13)))]) (.seq (.cond (.t 15) .skip (.exit 0)) (y3a4 c)))
def y3a6 (c:Nat→FuncId):LCode:=(.block 0 (.loop (zm false [0,1,4,1,6,3,21]) (y3a5 c)))
def y3a7 (c:Nat→FuncId):LCode:=(.seq (.seq (.sq [(zv 12 1),(zs 13 (.len .sl (.t 12))),(zs 14 (.mv false (zi 0)))]) (y3a6 c)) (.seq (.sq [(zs 35 (.mv true (.t 5))),(zs 4 (.mv true (.t 35)))]) .ret))
def y3a8 (c:Nat→FuncId):LCode:=(.seq (.sq [(zv 9 0),(zs 10 (.call (.f (c 0)) [(.t 9)])),(zs 11 (.mksl false true ⟨1,false,24,(.s .nilS)⟩ (.t 10) (.t 10))),(zs 5 (.mv true (.t 11)))]) (y3a7 c))
def Uzm (c:Nat→FuncId):=PLift.up (zc (zc (zc (@unfC _ _ (y3a1.eq_1 c)) (@unfC _ _ (y3a2.eq_1 c))) (zc (@unfC _ _ (y3a3.eq_1 c)) (@unfC _ _ (y3a4.eq_1 c)))) (zc (zc (@unfC _ _ (y3a5.eq_1 c)) (@unfC _ _ (y3a6.eq_1 c))) (zc (@unfC _ _ (y3a7.eq_1 c)) (@unfC _ _ (y3a8.eq_1 c)))))
def Cz1t (c:Nat→FuncId):LFn:=⟨36,[.t 4],(.seq (.sq [(zs 4 (.mv true (.c .nilS)))]) (y3a8 c))⟩
end Go.AM
namespace Go.AM
open Go
open AV renaming undef → uu
set_option maxRecDepth 20000
def SplitS (C:CallW) (f:FuncId):Prop:=∀(pts:List Key) (l:List Wr) (h:Nat) S H (K:AV→St→Prop),H[h]? = some (tabA pts)→pts.length≤1000→l.length≤1000→K (.row (.heap H.length) 0 (pts.length + 1) (pts.length + 1)) ⟨S,H ++ [.cells (splitC pts l)]⟩→C (.fn f) [.ptr (.heap h) 0,lstW l] ⟨S,H⟩ K
theorem nilS_flat:∀(n:Nat),(List.replicate n [AV.s .nilS]).flatten=List.replicate n (.s .nilS)
  | 0=>rfl
  | n + 1=>by rw [List.replicate_succ,List.flatten_cons,nilS_flat n]; rfl
theorem nilS_low:∀(n:Nat),AV.under.go 0 (List.replicate n (.s .nilS))=true
  | 0=>rfl
  | n + 1=>by rw [List.replicate_succ,AV.under.go,nilS_low n]; rfl
set_option maxHeartbeats 4000000 in
theorem Split_spec {C : CallW} (hC : LeC C C) (P : Program) {c : Nat → FuncId} (hn : TNodesS C (c 0)) (ho : TOfS C (c 1)) : ∀ (pts : List Key) (l : List Wr) (h : Nat) S H (K : AV → St → Prop), H[h]? = some (tabA pts) → pts.length ≤ 1000 → l.length ≤ 1000 →
    K (.row (.heap H.length) 0 (pts.length + 1) (pts.length + 1)) ⟨S,H ++ [.cells (splitC pts l)]⟩→runL C P (Cz1t c) [.ptr (.heap h) 0,lstW l] ⟨S,H⟩ K:=by
  intro pts l h S H K hh hp hl hK
  have hn':=hn pts
  have ho':=ho pts
  have hhl:h < H.length:=(List.getElem?_eq_some_iff.1 hh).1
  simp only [lstW,Cz1t,RUN_,(Uzm _).1,FR_,simprocAttr,if_true,if_false,ite_true,ite_false,ne_eq,eq_self,OPK_,KEY_]
  refine hn' _ _ _ _ hh (by omega) ?_
  have hmk:mkslL false true ⟨1,false,24,.s .nilS⟩ (.s (.int .i64 ((pts.length + 1:Nat):Int))) (.s (.int .i64 ((pts.length + 1:Nat):Int))) ⟨S,H⟩=some (.row (.heap H.length) 0 (pts.length + 1) (pts.length + 1),⟨S,H ++ [.cells (splitC pts [])]⟩):=by
    unfold mkslL
    dsimp only
    rw [if_pos (by omega)]
    simp only [Int.toNat_natCast,AV.cells,nilS_flat,newBox_heap (nilS_low _),Option.map_some,splitC_nil]
  simp only [RUN_,(Uzm _).1,FR_,simprocAttr,if_true,if_false,ite_true,ite_false,ne_eq,eq_self,OPK_,KEY_,hmk]
  refine loop_rule hC (α:=Nat) (fun a=>l.length - a) (fun a=>[.ptr (.heap h) 0,uu,uu,uu,uu,.row (.heap H.length) 0 (pts.length + 1) (pts.length + 1),uu,uu,uu,uu,uu,uu,.list .sh 18 (l.map wA),.s (.int .i64 l.length),.s (.int .i64 a),uu,uu,uu,uu,uu,uu,uu,uu,uu,uu,uu,uu,uu,uu,uu,uu,uu,uu,uu,uu,uu]) (fun _=>S) (fun a=>H ++ [.cells (splitC pts (l.take a))]) (fun i=>i≤l.length) 0 (by simp) rfl (by simp) rfl (fun i hi=>by simp [AV.under,AV.under.go]) ?_
  intro i hi ih
  by_cases h16:i < l.length
  · have hh2:(H ++ [.cells (splitC pts (l.take i))])[h]? = some (tabA pts):=by rw [List.getElem?_append_left hhl]; exact hh
    have hlt:((i:Int) < (l.length:Int)):=by omega
    have hw:=wrap_succ (i:=i) (by omega)
    have htk:l.take (i + 1)=l.take i ++ [l[i]]:=List.take_succ_eq_append_getElem h16
    simp only [RUN_,(Uzm _).1,FR_,simprocAttr,if_true,if_false,ite_true,ite_false,ne_eq,eq_self,OPK_,KEY_,WR_,hlt,h16]
    refine ho' _ _ _ _ _ hh2 (by omega) ?_
    by_cases hneg:ofK pts (l[i]).key < 0
    · have hge:¬((0:Int)≤ofK pts (l[i]).key):=by omega
      simp only [RUN_,(Uzm _).1,FR_,simprocAttr,if_true,if_false,ite_true,ite_false,ne_eq,eq_self,OPK_,KEY_,WR_,hge,hw]
      refine ih (i + 1) _ _ _ (by omega) (by omega) rfl (by simp) ?_
      rw [htk,splitC_skip hneg]
    · obtain ⟨n,hn⟩:∃n:Nat,ofK pts (l[i]).key=(n:Int):=⟨(ofK pts (l[i]).key).toNat,by omega⟩
      have hnl:n < pts.length + 1:=by
        unfold ofK at hn hneg
        split at hn
        · have:=cnt_le' (l[i]).key pts; omega
        · omega
      have hge:((0:Int)≤(n:Int)):=by omega
      have hsl:n < (splitC pts (l.take i)).length:=by rw [splitC_len]; exact hnl
      have hg:=splitC_get (pts:=pts) (l:=l.take i) hnl
      have hfin:=splitC_snoc (l:=l.take i) hn hnl
      rw [slO_own (by simp),←htk] at hfin
      by_cases hp:partW pts (l.take i) n=[]
      · have hst:=storeO_heap (S:=S ++ [wc l[i]]) (H:=H) (cs:=(splitC pts (l.take i)).set n (.s .nilS)) (n:=n) (sz:=18) (es:=[.agg (wc l[i])]) (by simpa using hsl)
        rw [hp,slO_nil] at hg
        rw [hp,List.nil_append] at hfin
        simp only [RUN_,(Uzm _).1,FR_,simprocAttr,if_true,if_false,ite_true,ite_false,ne_eq,eq_self,OPK_,KEY_,WR_,CHK_,Nat.reduceBEq,hn,hge,hnl,ixr_n,hg,hw,app_nilW,hst,Nat.mul_one,List.set_set]
        exact ih (i + 1) _ _ _ (by omega) (by omega) rfl (by simp) (by rw [←hfin]; rfl)
      · have hst:=storeO_heap (S:=S ++ [wc l[i]]) (H:=H) (cs:=(splitC pts (l.take i)).set n (.list .sh 18 ((partW pts (l.take i) n).map wA))) (n:=n) (sz:=18) (es:=(partW pts (l.take i) n ++ [l[i]]).map wA) (by simpa using hsl)
        have hpl:(partW pts (l.take i) n).length≤1000000:=by
          have h1:=List.length_filter_le (fun w:Wr=>decide (ofK pts w.key=(n:Int))) (l.take i)
          rw [List.length_take] at h1
          unfold partW; omega
        rw [slO_own hp] at hg
        simp only [RUN_,(Uzm _).1,FR_,simprocAttr,if_true,if_false,ite_true,ite_false,ne_eq,eq_self,OPK_,KEY_,WR_,CHK_,Nat.reduceBEq,hn,hge,hnl,ixr_n,hg,hw,hpl,app_ownW,hst,Nat.mul_one,List.set_set]
        exact ih (i + 1) _ _ _ (by omega) (by omega) rfl (by simp) (by rw [←hfin])
  · have hlt:¬((i:Int) < (l.length:Int)):=by omega
    have:i=l.length:=by omega
    subst this
    simp only [RUN_,(Uzm _).1,FR_,simprocAttr,if_true,if_false,ite_true,ite_false,ne_eq,eq_self,OPK_,KEY_,hlt]
    exact hK
end Go.AM
namespace Go.AM
open Go
set_option maxRecDepth 20000
end Go.AM
namespace Go.AM
open Go
set_option maxRecDepth 20000
end Go.AM
namespace Go.AM
open Go
set_option maxRecDepth 20000
end Go.AM
namespace Go.AM
open Go
open AV renaming undef → uu
set_option maxRecDepth 20000
def partsC (pts:List Key) (l:List Wr):List Nat:=(List.range (pts.length + 1)).filter fun j=>decide (partW pts l j≠[])
def RPartsS (C:CallW) (f:FuncId):Prop:=∀(pts:List Key) (l:List Wr) (h:Nat) S H (K:AV→St→Prop),okPts pts=true→H[h]? = some (tabA pts)→pts.length≤1000→l.length≤1000→K (lstI (partsC pts l)) ⟨S,H⟩→C (.fn f) [.ptr (.heap h) 0,lstW l] ⟨S,H⟩ K
def outI (pts:List Key) (l:List Wr):List Nat:=l.filterMap fun w=>if 0≤ofK pts w.key then some (ofK pts w.key).toNat else none
theorem outI_snoc {pts:List Key} {l:List Wr} {w:Wr}:outI pts (l ++ [w])=outI pts l ++ (if 0≤ofK pts w.key then [(ofK pts w.key).toNat] else []):=by
  unfold outI
  rw [List.filterMap_append]
  congr 1
  split <;> rename_i h <;> simp [h]
theorem outI_len {pts:List Key} {l:List Wr}:(outI pts l).length≤l.length:=List.length_filterMap_le _ _
def arrI (l:List Nat):Array Int:=(l.map fun (n:Nat)=>(n:Int)).toArray
theorem arrI_flat (l:List Nat):flat iA (arrI l)=l.map fun (n:Nat)=>AV.i n:=by rw [flat_iA]; simp [arrI,iA,Function.comp_def]
theorem arrI_size (l:List Nat):(arrI l).size=l.length:=by simp [arrI]
theorem thaw_slI {fr:Fr} {t:Nat} {l:List Nat} {S:List (List AV)} {H:List HObj} (hne:l≠[]) (h:fr.getD t .undef=slI l):AM.thaw fr (.tmp t) ⟨S,H⟩=some (.row (.stk S.length) 0 l.length l.length,fr.set t (.row (.stk S.length) 0 l.length l.length),⟨S ++ [flat iA (arrI l)],H⟩):=by
  have hc:∀l:List Nat,(l.map fun (n:Nat)=>AV.i n).flatMap AV.cells=l.map fun (n:Nat)=>AV.i n:=by
    intro l
    induction l with
    | nil=>rfl
    | cons x l ih=>rw [List.map_cons,List.flatMap_cons,ih]; rfl
  have hu:∀(m:Nat) (l:List Nat),underL m (l.map fun (n:Nat)=>AV.i n)=true:=by
    intro m l
    induction l with
    | nil=>rfl
    | cons x l ih=>exact ih
  unfold AM.thaw
  simp only [h,slI,if_neg hne]
  rw [if_neg (by simp [hne]),hc,newBox_stk (hu _ _),arrI_flat]
  simp
theorem thaw_nil {fr:Fr} {t:Nat} {σ:St} (h:fr.getD t .undef=slI []):AM.thaw fr (.tmp t) σ=some (.s .nilS,fr,σ):=by
  unfold AM.thaw
  simp only [h]
  rfl
set_option maxHeartbeats 8000000 in
theorem Parts_spec {C:CallW} (hC:LeC C C) (P:Program) {c:Nat→FuncId} (h0:TOfS C (c 0)) (h1:SortIS C (c 1)) (h1n:OneN C (c 1) (.tup [])) (h2:CompS C (c 2)) (h2n:OneN C (c 2) (.s .nilS)):∀(pts:List Key) (l:List Wr) (h:Nat) S H (K:AV→St→Prop),H[h]? = some (tabA pts)→pts.length≤1000→l.length≤1000→(∀R,Sort.PermIn 0 (outI pts l).length (arrI (outI pts l)) R→Sort.SortedIn ltI 0 (outI pts l).length R→K (if outI pts l=[] then .s .nilS else .list .sh 1 ((compI R.toList).map iA)) ⟨S,H⟩)→runL C P (Cz7 c) [.ptr (.heap h) 0,lstW l] ⟨S,H⟩ K:=by
  intro pts l h S H K hh hp hl hK
  have h0':=h0 pts
  have hfz:∀(e:ET) (σ:St),freezeL e (.s .nilS) σ=some (.s .nilS,σ):=fun _ _=>rfl
  simp only [lstW,Cz7,A_,simprocAttr,ne_eq,(Uzb _).1,hfz]
  refine loop_rule hC (α:=Nat) (fun a=>l.length - a) (fun a=>[.ptr (.heap h) 0,uu,uu,uu,uu,slI (outI pts (l.take a)),uu,uu,uu,.list .sh 18 (l.map wA),.s (.int .i64 l.length),.s (.int .i64 (a:Nat)),uu,uu,uu,uu,uu,uu,uu,uu,uu,uu,uu,uu,uu,uu,uu,uu,uu,uu]) (fun _=>S) (fun a=>H) (fun i=>i≤l.length) 0 (by omega) (by simp [keep,zm]; rfl) (by simp) rfl (fun i hi=>by simp [AV.under,AV.under.go,under_slI]) ?_
  intro i hi ih
  by_cases h16:i < l.length
  · have hlt:((i:Int) < (l.length:Int)):=by omega
    have hw:=wrap_succ (i:=i) (by omega)
    have htk:l.take (i + 1)=l.take i ++ [l[i]]:=List.take_succ_eq_append_getElem h16
    have hcl:=outI_len (pts:=pts) (l:=l.take i)
    rw [List.length_take] at hcl
    have hs:=outI_snoc (pts:=pts) (l:=l.take i) (w:=l[i])
    rw [←htk] at hs
    simp only [Cz7,A_,simprocAttr,ne_eq,(Uzb _).1,WR_,hlt,h16]
    refine h0' _ _ _ _ _ hh (by omega) ?_
    by_cases hneg:ofK pts (l[i]).key < 0
    · have hge:¬((0:Int)≤ofK pts (l[i]).key):=by omega
      rw [if_neg hge,List.append_nil] at hs
      simp only [Cz7,A_,simprocAttr,ne_eq,(Uzb _).1,WR_,hge,hw]
      exact ih (i + 1) _ _ _ (by omega) (by omega) (by simp [keep,zm,hs]) (by simp) rfl
    · obtain ⟨n,hn⟩:∃n:Nat,ofK pts (l[i]).key=(n:Int):=⟨(ofK pts (l[i]).key).toNat,by omega⟩
      have hge:((0:Int)≤(n:Int)):=by omega
      rw [hn,if_pos hge,Int.toNat_natCast] at hs
      have happ:∀(e:ET) (σ:St),e.c=1→e.bytes=8→appendL e false (slI (outI pts (l.take i))) (.list .full 1 [.i n]) σ=some (slI (outI pts (l.take i) ++ [n]),σ):=fun e σ h1 h2=>app_slI h1 h2 (by omega)
      simp only [Cz7,A_,simprocAttr,ne_eq,(Uzb _).1,WR_,hn,hge,happ,hw]
      exact ih (i + 1) _ _ _ (by omega) (by omega) (by simp [keep,zm,hs]) (by simp) rfl
  · have hlt:¬((i:Int) < (l.length:Int)):=by omega
    have:i=l.length:=by omega
    subst this
    rw [List.take_length]
    have hol:=outI_len (pts:=pts) (l:=l)
    generalize ho:outI pts l=o at hK hol ⊢
    by_cases e:o=[]
    · subst e
      have hd:Sort.PermIn 0 0 (arrI []) (arrI []):=Sort.permIn_refl _ _ _
      have hK2:=hK (arrI []) hd (fun i j h1 h2 h3=>by simp at h3)
      rw [if_pos rfl] at hK2
      simp only [Cz7,A_,simprocAttr,ne_eq,(Uzb _).1,hlt]
      rw [thaw_nil rfl]
      simp only [Cz7,A_,simprocAttr,ne_eq,(Uzb _).1,hlt]
      refine h1n _ _ _ ?_
      simp only [Cz7,A_,simprocAttr,ne_eq,(Uzb _).1,show slI [] = .s .nilS from rfl]
      refine h2n _ _ _ ?_
      simp only [Cz7,A_,simprocAttr,ne_eq,(Uzb _).1,hfz]
      exact hK2
    · simp only [if_neg e] at hK
      simp only [Cz7,A_,simprocAttr,ne_eq,(Uzb _).1,hlt]
      rw [thaw_slI e rfl]
      have hsz:=arrI_size o
      have hS1:(S ++ [flat iA (arrI o)])[S.length]? = some (flat iA (arrI o)):=by simp
      simp only [Cz7,A_,simprocAttr,ne_eq,(Uzb _).1,List.set_cons_zero,List.set_cons_succ]
      rw [←hsz]
      refine h1 S.length (arrI o) _ _ _ hS1 (by omega) fun R hR1 hR2 => ?_
      rw [hsz] at hR1 hR2
      have hK2:=hK R hR1 hR2
      have hRs:R.size=o.length:=hR1.1.trans hsz
      have hset:∀x y:List AV,(S ++ [x]).set S.length y=S ++ [y]:=fun x y=>by simp
      rw [hset]
      have hS2:(S ++ [flat iA R])[S.length]? = some (flat iA R):=by simp
      simp only [Cz7,A_,simprocAttr,ne_eq,(Uzb _).1]
      rw [hsz,←hRs]
      refine h2 S.length R _ _ _ hS2 (by omega) fun k e2 hk he2 hc => ?_
      rw [hset]
      have hS3:(S ++ [flat iA e2])[S.length]? = some (flat iA e2):=by simp
      have hf:∀{e:ET},e.c=1→e.ag=false→freezeL e (.row (.stk S.length) 0 k R.size) ⟨S ++ [flat iA e2],H⟩=_:=fun h1 h2=>freeze_i (H:=H) h1 h2 hS3 (by omega)
      simp only [hset,hc] at hf
      simp only [Cz7,A_,simprocAttr,ne_eq,(Uzb _).1,hf]
      exact hK2
end Go.AM
namespace Go.AM
open Go
set_option maxRecDepth 20000
end Go.AM
namespace Go.AM
open Go
set_option maxRecDepth 20000
end Go.AM
namespace Go.AM
open Go
set_option maxRecDepth 20000
structure okB (r:Rec):Prop where
  ws:r.writes.length≤20
  vs:∀w∈r.writes,w.val.length≤250
  ps:r.parts.length≤12
  lo : -9223372036854775808≤r.id
  hi:r.id≤9223372036854775807
theorem okB.ok {r:Rec} (h:okB r):okR r:=⟨by have:=h.ws; omega,by have:=h.ps; omega⟩
end Go.AM
namespace Go.AM
open Go
set_option maxRecDepth 20000
end Go.AM
namespace Go.AM
open Go
set_option maxRecDepth 20000
end Go.AM
namespace Go.AM
open Go
set_option maxRecDepth 20000
end Go.AM
namespace Go.AM
open Go
end Go.AM
namespace Go.AM
open Go
set_option maxRecDepth 20000
end Go.AM
namespace Go.AM
open Go
set_option maxRecDepth 20000
end Go.AM
namespace Go.AM
open Go
def Loc {α:Type} (f:Rd→α×Rd):Prop:=∀r q,(f r).2=some q→∃b,r=some b∧∀c,f (some (b ++ c))=((f r).1,some (q ++ c))
theorem Loc.dead {α:Type} {f:Rd→α×Rd} (h:Loc f):(f none).2=none:=by
  cases hq:(f none).2 with
  | none=>rfl
  | some q=>obtain ⟨b,hb,_⟩:=h none q hq; cases hb
theorem Loc.bind {α β:Type} {f:Rd→α×Rd} {g:α→Rd→β×Rd} (hf:Loc f) (hg:∀a,Loc (g a)):Loc fun r=>g (f r).1 (f r).2:=by
  intro r q h
  obtain ⟨b1,hb1,hc1⟩:=hg _ _ q h
  obtain ⟨b,hb,hc⟩:=hf r b1 hb1
  refine ⟨b,hb,fun c => ?_⟩
  dsimp only
  rw [hc c,hc1 c]
theorem Loc.map {α β:Type} {f:Rd→α×Rd} (hf:Loc f) (g:α→β):Loc fun r=>(g (f r).1,(f r).2):=by
  intro r q h
  obtain ⟨b,hb,hc⟩:=hf r q h
  exact ⟨b,hb,fun c=>by dsimp only; rw [hc c]⟩
end Go.AM
namespace Go.AM
open Go
end Go.AM
namespace Go.AM
open Go
set_option maxRecDepth 20000
end Go.AM
namespace Go.AM
open Go
set_option maxRecDepth 20000
structure inR (r:Rec):Prop where
  ok:okR r
  lo : -9223372036854775808≤r.id
  hi:r.id≤9223372036854775807
end Go.AM
namespace Go.AM
open Go
set_option maxRecDepth 20000
end Go.AM
namespace Go.AM
open Go
set_option maxRecDepth 20000
def y6h1 (c:Nat→FuncId):LCode:=(.seq (.tree (.rd (zv 17 5) 0 false (.rd (zv 18 17) 1 false (.rd (zt 19 18 (.mv false (.t 6))) 2 false (.rd (zs 20 (.pick (.t 18) (.t 19) zF)) 3 false (.rd (zv 21 20) 4 false (.rd (zt 22 21 (.loadA 45 (.t 2))) 5 false (.rd (zt 24 21 (.loadA 45 (.t 3))) 7 true (.mv (zt 23 21 (.call (.f (c 2)) [(.t 22)])) [0,1,2,3,4,5] (.mv (zt 25 21 (.call (.f (c 2)) [(.t 24)])) [0,1,2,3,4,5,6,7] (.rd (zt 26 21 (.bin .eql (.leaf ([.int .i64,.int .i64,.int .i64,.int .i64,.int .i64,.int .i64] ++ lk ++ lk ++ [.int .u8,.str,.bool,.bool,.int .i64])) (.t 23) (.t 25))) 9 false (.rd (zs 27 (.pick (.t 21) (.t 26) zF)) 10 false (.mv (zs 4 (.mv true (.t 27))) [0,1,2,3,4,5,6,7,8,9,10] .done .stop))) .stop) .stop))))))))) .ret)
def y6h2 (c:Nat→FuncId):LCode:=(.seq (.tree (.rd (zs 7 (.shift 39 (.t 2))) 0 false (.rd (zs 8 (.load1 false (.t 7))) 1 false (.rd (zs 9 (.shift 39 (.t 3))) 2 false (.rd (zs 10 (.load1 false (.t 9))) 3 false (.rd (zs 12 (.shift 40 (.t 2))) 5 true (.rd (zs 13 (.load1 false (.t 12))) 6 true (.rd (zs 14 (.shift 40 (.t 3))) 7 true (.rd (zs 15 (.load1 false (.t 14))) 8 true (.mv (zs 11 (.call (.f (c 0)) [(.t 8),(.t 10)])) [0,1,2,3] (.mv (zs 16 (.call (.f (c 1)) [(.t 13),(.t 15)])) [0,1,2,3,4,5,6,7,8] (.mv (zs 5 (.mv true (.t 11))) [0,1,2,3,4,5,6,7,8,9] (.mv (zs 6 (.mv true (.t 16))) [0,1,2,3,4,5,6,7,8,9,10] .done .stop) .stop) .stop) .stop)))))))))) (y6h1 c))
def Uz1y (c:Nat→FuncId):=PLift.up (zc (@unfC _ _ (y6h1.eq_1 c)) (@unfC _ _ (y6h2.eq_1 c)))
def Cz3t (c:Nat→FuncId):LFn:=⟨28,[.t 4],(.seq (.sq [(zs 2 (.box false false (.t 0))),(zs 3 (.box false false (.t 1))),(zs 4 (.mv true zF))]) (y6h2 c))⟩
def y6i1:LCode:=(.seq (.tree (.rd (zv 16 0) 0 false (.rd (zv 17 5) 1 false (.rd (zs 18 (.ixa (.sl 17) (.t 16) (.t 17))) 2 false (.rd (zs 19 (.loadA 17 (.t 18))) 3 false (.rd (zv 20 1) 4 false (.rd (zv 21 5) 5 false (.rd (zs 22 (.ixa (.sl 17) (.t 20) (.t 21))) 6 false (.rd (zs 23 (.loadA 17 (.t 22))) 7 false (.rd (zs 24 (.bin .neq (.leaf (lk ++ [.str])) (.t 19) (.t 23))) 8 false .done)))))))))) (.cond (.t 24) (.seq (.sq [(zs 4 (.mv true zF))]) .ret) .skip))
def y6i2:LCode:=(.seq (.block 1 (.seq (.sq [(zv 15 13),(zs 5 (.mv true (.t 15)))]) y6i1)) (.sq [(zs 25 (.bin .add .sc (.t 13) (zi 1))),(zv 13 25)]))
def y6i3:LCode:=(.seq (.sq [(zs 14 (.bin .lss .sc (.t 13) (.t 12)))]) (.seq (.cond (.t 14) .skip (.exit 0)) y6i2))
def y6i4:LCode:=(.block 0 (.loop (zm false [0,2,10,2,12]) y6i3))
def y6i5:LCode:=(.seq (.seq (.sq [(zv 11 0),(zs 12 (.len .sl (.t 11))),(zs 13 (.mv false (zi 0)))]) y6i4) (.seq (.sq [(zs 4 (.mv true zT))]) .ret))
def y6i6:LCode:=(.seq (.seq (.sq [(zv 6 0),(zs 7 (.len .sl (.t 6))),(zv 8 1),(zs 9 (.len .sl (.t 8))),(zs 10 (.bin .neq .sc (.t 7) (.t 9)))]) (.cond (.t 10) (.seq (.sq [(zs 4 (.mv true zF))]) .ret) .skip)) y6i5)
def Uz16:=PLift.up (zc (zc (@unfC _ _ (y6i1.eq_1)) (zc (@unfC _ _ (y6i2.eq_1)) (@unfC _ _ (y6i3.eq_1)))) (zc (@unfC _ _ (y6i4.eq_1)) (zc (@unfC _ _ (y6i5.eq_1)) (@unfC _ _ (y6i6.eq_1)))))
def Cz1d:LFn:=⟨26,[.t 4],(.seq (.sq [(zs 4 (.mv true zF))]) y6i6)⟩
def y6j1:LCode:=(.seq (.sq [(zs 3 (.shift 0 (.t 1))),(zs 4 (.load1 false (.t 3))),(zs 5 (.shift 1 (.t 1))),(zs 6 (.load1 false (.t 5))),(zs 7 (.shift 2 (.t 1))),(zs 8 (.load1 false (.t 7))),(zs 9 (.shift 3 (.t 1))),(zs 10 (.load1 false (.t 9))),(zs 11 (.shift 4 (.t 1))),(zs 12 (.load1 false (.t 11))),(zs 13 (.shift 5 (.t 1))),(zs 14 (.loadA 2 (.t 13))),(zs 15 (.shift 7 (.t 1))),(zs 16 (.loadA 16 (.t 15))),(zs 17 (.shift 23 (.t 1))),(zs 18 (.loadA 16 (.t 17))),(zs 19 (.shift 41 (.t 1))),(zs 20 (.load1 false (.t 19))),(zs 21 (.shift 42 (.t 1))),(zs 22 (.load1 false (.t 21))),(zs 23 (.shift 43 (.t 1))),(zs 24 (.load1 false (.t 23))),(zs 25 (.shift 44 (.t 1))),(zs 26 (.load1 false (.t 25))),(zs 27 (.build ([(.s (.int .i64 0)),(.s (.int .i64 0)),(.s (.int .i64 0)),(.s (.int .i64 0)),(.s (.int .i64 0)),(.s (.int .i64 0))] ++ zk ++ zk ++ [(.s (.int .u8 0)),(.s (.str [])),(.s (.bool false)),(.s (.bool false)),(.s (.int .i64 0))]) [(0,1,(.t 4)),(1,1,(.t 6)),(2,1,(.t 8)),(3,1,(.t 10)),(4,1,(.t 12)),(5,2,(.t 14)),(7,16,(.t 16)),(23,16,(.t 18)),(39,1,(.t 20)),(40,1,(.t 22)),(41,1,(.t 24)),(42,1,(.t 26))])),(zn (.store 43 (.t 2) (.t 27)))]) .ret)
def Uz75:=PLift.up (@unfC _ _ (y6j1.eq_1))
def Cz3h:LFn:=⟨28,[.many 2 43],(.seq (.sq [(zs 1 (.box false false (.t 0))),(zs 2 (.alloc false ([(.s (.int .i64 0)),(.s (.int .i64 0)),(.s (.int .i64 0)),(.s (.int .i64 0)),(.s (.int .i64 0)),(.s (.int .i64 0))] ++ zk ++ zk ++ [(.s (.int .u8 0)),(.s (.str [])),(.s (.bool false)),(.s (.bool false)),(.s (.int .i64 0))])))]) y6j1)⟩
end Go.AM
namespace Go.AM
open Go
structure It where
  key:Key
  val:List UInt8
  deriving DecidableEq
def itc (x:It):List AV:=bs x.key.b ++ [.s (.str x.val)]
def itA (x:It):AV := .agg (itc x)
theorem itc_length (x:It):(itc x).length=17:=by simp [itc,kc_length]
theorem itA_under {n:Nat} {x:It}:AV.under n (itA x)=true:=by simp [itA,itc,AV.under,under_app',under_bs,AV.under.go]
theorem itc_under {n:Nat} {x:It}:AV.under.go n (itc x)=true:=by simp [itc,AV.under,under_app',under_bs,AV.under.go]
theorem itA_low {n:Nat}:∀{l:List It},AV.under.go n (l.map itA)=true
  | []=>rfl
  | k :: l=>by simp only [List.map_cons,AV.under.go,itA_under,itA_low (l:=l),Bool.and_self]
theorem look_itc (x:It):(itc x).map AV.look=itc x:=by simp [itc,map_look_bs]; rfl
theorem ixl_it {l:List It} {i c:Nat} {k:IntKind} (h:i < l.length) (hc:c≠0):indexAddrL (.sl c) (.list .sh c (l.map itA)) (.s (.int k (i:Int)))=some (.rop (itc l[i])):=ixl_map h hc
theorem beq_itc (a b:It):AV.beq.go (itc a) (itc b)=decide (a=b):=by
  rw [itc,itc,beq_app_k,beq_kk]
  cases a; cases b
  simp [AV.beq.go,AV.beq,It.mk.injEq,Bool.decide_and,Bool.and_assoc]
theorem fits_itc (w:It):fitsL (lk ++ [.str]) (itc w)=true:=by rw [itc,fits_kr]; rfl
theorem take_itc (w:It):(itc w).take 17=itc w:=List.take_of_length_le (Nat.le_of_eq (itc_length w))
theorem take_itk (w:It):(itc w).take 16=bs w.key.b:=take_kc _ _
theorem drop_itc (w:It):(itc w).drop 16=[.s (.str w.val)]:=drop_kc _ _
theorem get_itc16 (x:It):(itc x)[16]? = some (.s (.str x.val)):=by rw [itc,get_kc16]; rfl
theorem IT_:type_of% @get_itc16∧type_of% @itc_length∧type_of% @itc_under∧type_of% @itA_low∧type_of% @look_itc∧type_of% @beq_itc∧type_of% @fits_itc∧type_of% @ixl_it∧type_of% @take_itc∧type_of% @take_itk∧type_of% @drop_itc:=⟨@get_itc16,@itc_length,@itc_under,@itA_low,@look_itc,@beq_itc,@fits_itc,@ixl_it,@take_itc,@take_itk,@drop_itc⟩
def lstIt (l:List It):AV := .list .sh 17 (l.map itA)
structure Msg where
  kind:Int
  frm:Int
  tto:Int
  id:Int
  num:Int
  stp:Stp
  key:Key
  unt:Key
  writes:List Wr
  items:List It
  val:List UInt8
  found:Bool
  yes:Bool
  err:Int
  deriving DecidableEq
def msc (m:Msg):List AV:=[.s (.int .i64 m.kind),.s (.int .i64 m.frm),.s (.int .i64 m.tto),.s (.int .i64 m.id),.s (.int .i64 m.num),.s (.int .i64 m.stp.t),u8 m.stp.n] ++ (bs m.key.b ++ (bs m.unt.b ++ [.list .sh 18 (m.writes.map wA),.list .sh 17 (m.items.map itA),.s (.str m.val),.s (.bool m.found),.s (.bool m.yes),.s (.int .i64 m.err)]))
theorem msc_length (m:Msg):(msc m).length=45:=by simp [msc,kc_length]
theorem get_kcG {k:Key} {r:List AV} {n:Nat} (h:16≤n):(bs k.b ++ r)[n]? = r[n - 16]? := by rw [List.getElem?_append_right (by rw [kc_length]; exact h),kc_length]
theorem set_kcG {k:Key} {r:List AV} {n:Nat} {x:AV} (h:16≤n):(bs k.b ++ r).set n x=bs k.b ++ r.set (n - 16) x:=by rw [List.set_append_right _ _ (by rw [kc_length]; exact h),kc_length]
theorem drop_kcG {k:Key} {r:List AV} {n:Nat} (h:16≤n):(bs k.b ++ r).drop n=r.drop (n - 16):=by rw [List.drop_append,kc_length,List.drop_of_length_le (by rw [kc_length]; exact h),List.nil_append]
theorem take_kcG {k:Key} {r:List AV} {n:Nat} (h:16≤n):(bs k.b ++ r).take n=bs k.b ++ r.take (n - 16):=by rw [List.take_append,kc_length,List.take_of_length_le (by rw [kc_length]; exact h)]
theorem KG_:type_of% @get_kcG∧type_of% @set_kcG∧type_of% @drop_kcG∧type_of% @take_kcG:=⟨@get_kcG,@set_kcG,@drop_kcG,@take_kcG⟩
def okM (m:Msg):Prop:=m.writes.length≤9223372036854775807∧m.items.length≤9223372036854775807∧m.val.length≤9223372036854775807∧(∀x∈m.items,x.val.length≤9223372036854775807)
end Go.AM
namespace Go.AM
open Go
set_option maxRecDepth 20000
def tF (_:Int):AV := .bool true
theorem look_f {S:List (List AV)} {H:List HObj} {hv:Nat} {vs:List Int} (a:∃es c,H[hv]? = some (.map es c)∧MapG iA (fun i=>i) tF es c vs) (v:Int):lookupL (.one (.int .i64)) (.s (.bool false)) false (.map hv) (.s (.int .i64 v)) ⟨S,H⟩=some (.bool (decide (v∈vs))):=by
  obtain ⟨es,c,a,g⟩:=a
  have:=map_look keyK_int (S:=S) (k:=v) (z := .s (.bool false)) (ok:=false) a g.rel
  rw [show iA v=AV.s (.int .i64 v) from rfl] at this
  rw [this]
  cases hg:getB (fun i=>i) vs v with
  | none =>
    have:=getB_none hg
    rw [decide_eq_false fun q=>this v q rfl]; rfl
  | some y =>
    obtain ⟨q1,q2⟩:=getB_mem hg
    have q2:y=v:=q2
    subst q2
    rw [decide_eq_true q1]; rfl
theorem len_f {S:List (List AV)} {H:List HObj} {hv:Nat} {vs:List Int} (a:∃es c,H[hv]? = some (.map es c)∧MapG iA (fun i=>i) tF es c vs):lenL .map (.map hv) ⟨S,H⟩=some vs.length:=by
  obtain ⟨es,c,a,g⟩:=a
  have hlen:es.length=vs.length:=by have:=congrArg List.length g.rel; simpa [RelM] using this
  simp [lenL,mapOf,a,hlen]
theorem st1f {S:List (List AV)} {H:List HObj} {b off:Nat} {cs:List AV} {v:AV} (hb:H[b]? = some (.cells cs)) (h1:off < cs.length) (h2:v.cells=[v]) (h3:v.fit=true) (h4:AV.under 0 v=true):storeL 1 (.ptr (.heap b) off) v ⟨S,H⟩=some ⟨S,H.set b (.cells (cs.set off v))⟩:=by
  have hbo:boxOf ⟨S,H⟩ (.heap b)=some cs:=by simp [boxOf,hb]
  simp [storeL,h2,h3,writeCells,hbo,mayHold,AV.under.go,h4,splice,setBox]
  omega
theorem st2f {S:List (List AV)} {H:List HObj} {b off:Nat} {cs:List AV} {v w:AV} (hb:H[b]? = some (.cells cs)) (h1:off + 2≤cs.length) (h4:AV.under 0 v=true) (h5:AV.under 0 w=true):storeL 2 (.ptr (.heap b) off) (.agg [v,w]) ⟨S,H⟩=some ⟨S,H.set b (.cells (cs.take off ++ [v,w] ++ cs.drop (off + 2)))⟩:=by
  have hbo:boxOf ⟨S,H⟩ (.heap b)=some cs:=by simp [boxOf,hb]
  simp [storeL,AV.cells,AV.fit,writeCells,hbo,mayHold,AV.under.go,h4,h5,splice,setBox]
  omega
theorem rd2f {S:List (List AV)} {H:List HObj} {b:Nat} {cs:List AV} (hb:H[b]? = some (.cells cs)) {off:Nat} {s:Stp} (h:(cs.drop off).take 2=[.s (.int .i64 s.t),u8 s.n]):readA ⟨S,H⟩ (.ptr (.heap b) off) 2=some (.agg [.s (.int .i64 s.t),u8 s.n]):=by
  have hbo:boxOf ⟨S,H⟩ (.heap b)=some cs:=by simp [boxOf,hb]
  have hl:off + 2≤cs.length:=by have:=congrArg List.length h; simp at this; omega
  simp [readA,readCells,hbo,hl]
  rw [←List.map_drop,←List.map_take,h]; rfl
structure Tx1 where
  snap:Stp
  ws:List Wr
  step:Int
  spl:List Wr
  parts:List Nat
  said:List Int
  yes:Bool
  st:Stp
  err:Int
def txq (x:Tx1) (hw:Nat) (pv sv dv:AV):List AV:=[.s (.int .i64 x.snap.t),u8 x.snap.n,.map hw,.s (.int .i64 x.step),pv,sv,dv,.s (.bool x.yes),.s (.int .i64 x.st.t),u8 x.st.n,.s (.int .i64 x.err)]
def tx0 (s:Stp):Tx1:=⟨s,[],0,[],[],[],false,⟨0,0⟩,0⟩
def KeepF (H H':List HObj) (l:List Nat):Prop:=H.length≤H'.length∧∀i,i < H.length→i∉l→H'[i]? = H[i]?
theorem KeepF.refl {H:List HObj} {l:List Nat}:KeepF H H l:=⟨Nat.le_refl _,fun _ _ _=>rfl⟩
theorem KeepF.trans {H H' H'':List HObj} {l:List Nat} (a:KeepF H H' l) (b:KeepF H' H'' l):KeepF H H'' l :=
  ⟨Nat.le_trans a.1 b.1,fun i hi e=>(b.2 i (Nat.lt_of_lt_of_le hi a.1) e).trans (a.2 i hi e)⟩
theorem KeepF.app {H G:List HObj} {l:List Nat}:KeepF H (H ++ G) l:=⟨by simp,fun i hi _=>List.getElem?_append_left hi⟩
theorem KeepF.set {H:List HObj} {j:Nat} {o:HObj} {l:List Nat} (hj:j∈l):KeepF H (H.set j o) l:=⟨by simp,fun i _ e=>List.getElem?_set_ne fun q:j=i=>e (q▸hj)⟩
theorem KeepF.get {H H':List HObj} {l:List Nat} {q:Nat} {o:HObj} (x:KeepF H H' l) (e:H[q]? = some o) (h:q∉l):H'[q]? = some o:=by
  rw [x.2 q (hlt e) h]; exact e
theorem KeepF.mono {H H':List HObj} {l m:List Nat} (x:KeepF H H' l) (h:∀i∈l,i∈m∨H.length≤i):KeepF H H' m:=⟨x.1,fun i hi e=>x.2 i hi fun q=>by rcases h i q with h | h; exact e h; omega⟩
structure Left (H H':List HObj) (O O':List Nat):Prop where
  keep:KeepF H H' O
  old:∀i∈O',i∈O∨H.length≤i
theorem Left.refl {H:List HObj} {O:List Nat}:Left H H O O:=⟨.refl,fun _ h => .inl h⟩
theorem Left.app {H G:List HObj} {O:List Nat}:Left H (H ++ G) O O:=⟨.app,fun _ h => .inl h⟩
theorem Left.set {H:List HObj} {O:List Nat} {j:Nat} {o:HObj} (h:j∈O):Left H (H.set j o) O O:=⟨.set h,fun _ h => .inl h⟩
theorem Left.trans {H H' H'':List HObj} {O O' O'':List Nat} (a:Left H H' O O') (b:Left H' H'' O' O''):Left H H'' O O'' :=
  ⟨⟨Nat.le_trans a.keep.1 b.keep.1,fun i hi ho=>(b.keep.2 i (Nat.lt_of_lt_of_le hi a.keep.1) fun q=>(a.old i q).elim ho fun q=>by omega).trans (a.keep.2 i hi ho)⟩,
   fun i hi=>(b.old i hi).elim (a.old i) fun q => .inr (Nat.le_trans a.keep.1 q)⟩
structure TxE (H:List HObj) (O:List Nat) (b hw:Nat) (x:Tx1):Prop where
  atb:H[b]? = some (.cells (txq x hw (.s .nilS) (.s .nilS) (.s .nilM)))
  atw:MapKW H hw x.ws
  np:x.parts=[]
  ns:x.said=[]
  n1:b≠hw
  own:b∈O∧hw∈O
structure TxV (H:List HObj) (O:List Nat) (b hw hs hp:Nat) (pts:List Key) (x:Tx1):Prop where
  atb:H[b]? = some (.cells (txq x hw (lstI x.parts) (.row (.heap hp) 0 (pts.length + 1) (pts.length + 1)) (.map hs)))
  atw:MapKW H hw x.ws
  np:x.parts=partsC pts x.spl
  ls:x.spl.length≤1000∧pts.length≤1000
  ats:∃es c,H[hs]? = some (.map es c)∧MapG iA (fun i=>i) tF es c x.said
  nd:x.said.Nodup
  atp:H[hp]? = some (.cells (splitC pts x.spl))
  n1:b≠hw
  n2:b≠hs
  n3:b≠hp
  n4:hw≠hs
  n5:hw≠hp
  n6:hs≠hp
  own:b∈O∧hw∈O∧hs∈O∧hp∈O
def TxP (H:List HObj) (O:List Nat) (b:Nat) (pts:List Key) (x:Tx1):Prop:=(∃hw,TxE H O b hw x)∨∃hw hs hp,TxV H O b hw hs hp pts x
theorem mapkw_keep {H H':List HObj} {l:List Nat} {hw:Nat} {ws:List Wr} (t:MapKW H hw ws) (k:KeepF H H' l) (e:hw∉l):MapKW H' hw ws:=by
  obtain ⟨⟨es,c,a,g⟩,nd,ln⟩:=t
  exact ⟨⟨es,c,k.get a e,g⟩,nd,ln⟩
section
variable {H H':List HObj} {O O' l:List Nat} {b hw hs hp:Nat} {pts:List Key} {x y:Tx1}
theorem TxE.keep (t:TxE H O b hw x) (k:KeepF H H' l) (e:∀i∈O,i∉l) (eo:∀i∈O,i∈O'):TxE H' O' b hw x :=
  ⟨k.get t.atb (e _ t.own.1),mapkw_keep t.atw k (e _ t.own.2),t.np,t.ns,t.n1,eo _ t.own.1,eo _ t.own.2⟩
theorem TxV.keep (t:TxV H O b hw hs hp pts x) (k:KeepF H H' l) (e:∀i∈O,i∉l) (eo:∀i∈O,i∈O'):TxV H' O' b hw hs hp pts x:=by
  obtain ⟨es,c,a,g⟩:=t.ats
  exact ⟨k.get t.atb (e _ t.own.1),mapkw_keep t.atw k (e _ t.own.2.1),t.np,t.ls,⟨es,c,k.get a (e _ t.own.2.2.1),g⟩,t.nd,k.get t.atp (e _ t.own.2.2.2),t.n1,t.n2,t.n3,t.n4,t.n5,t.n6,eo _ t.own.1,eo _ t.own.2.1,eo _ t.own.2.2.1,eo _ t.own.2.2.2⟩
theorem TxP.keep (t:TxP H O b pts x) (k:KeepF H H' l) (e:∀i∈O,i∉l) (eo:∀i∈O,i∈O'):TxP H' O' b pts x:=by
  rcases t with ⟨hw,t⟩ | ⟨hw,hs,hp,t⟩
  · exact .inl ⟨hw,t.keep k e eo⟩
  · exact .inr ⟨hw,hs,hp,t.keep k e eo⟩
theorem TxE.setb (t:TxE H O b hw x) (e1:y.ws=x.ws) (e3:y.parts=x.parts) (e4:y.said=x.said):TxE (H.set b (.cells (txq y hw (.s .nilS) (.s .nilS) (.s .nilM)))) O b hw y:=by
  obtain ⟨hb,⟨⟨q3,c3,a3,g3⟩,nd,ln⟩,p,s,n1,o⟩:=t
  refine ⟨hself hb,⟨⟨q3,c3,hset n1 a3,?_⟩,?_,?_⟩,e3.trans p,e4.trans s,n1,o⟩
  · rw [e1]; exact g3
  · rw [e1]; exact nd
  · rw [e1]; exact ln
theorem TxV.setb (t:TxV H O b hw hs hp pts x) (e1:y.ws=x.ws) (e2:y.spl=x.spl) (e3:y.parts=x.parts) (e4:y.said=x.said):TxV (H.set b (.cells (txq y hw (lstI x.parts) (.row (.heap hp) 0 (pts.length + 1) (pts.length + 1)) (.map hs)))) O b hw hs hp pts y:=by
  obtain ⟨hb,⟨⟨q3,c3,a3,g3⟩,nd,ln⟩,p,pl,⟨es,c,a,g⟩,snd,atp,n1,n2,n3,n4,n5,n6,o⟩:=t
  rw [←e3]
  refine ⟨hself hb,⟨⟨q3,c3,hset n1 a3,?_⟩,?_,?_⟩,?_,by rw [e2]; exact pl,⟨es,c,hset n2 a,?_⟩,?_,?_,n1,n2,n3,n4,n5,n6,o⟩
  · rw [e1]; exact g3
  · rw [e1]; exact nd
  · rw [e1]; exact ln
  · rw [e3,e2]; exact p
  · rw [e4]; exact g
  · rw [e4]; exact snd
  · rw [e2]; exact hset n3 atp
theorem TxE.setw {es:List Entry} {c:Nat} {ws:List Wr} (t:TxE H O b hw x) (g:MapG kA Wr.key wA es c ws) (nd:(ws.map Wr.key).Nodup) (ln:ws.length≤1000):TxE (H.set hw (.map es c)) O b hw { x with ws:=ws }:=by
  obtain ⟨hb,⟨⟨q3,c3,a3,g3⟩,_,_⟩,p,s,n1,o⟩:=t
  exact ⟨hset n1.symm hb,⟨⟨es,c,hself a3,g⟩,nd,ln⟩,p,s,n1,o⟩
theorem TxV.setw {es:List Entry} {c:Nat} {ws:List Wr} (t:TxV H O b hw hs hp pts x) (g:MapG kA Wr.key wA es c ws) (nd:(ws.map Wr.key).Nodup) (ln:ws.length≤1000):TxV (H.set hw (.map es c)) O b hw hs hp pts { x with ws:=ws }:=by
  obtain ⟨hb,⟨⟨q3,c3,a3,g3⟩,_,_⟩,p,pl,⟨e4,c4,a,g4⟩,snd,atp,n1,n2,n3,n4,n5,n6,o⟩:=t
  exact ⟨hset n1.symm hb,⟨⟨es,c,hself a3,g⟩,nd,ln⟩,p,pl,⟨e4,c4,hset n4 a,g4⟩,snd,hset n5 atp,n1,n2,n3,n4,n5,n6,o⟩
theorem TxV.sets {es:List Entry} {c:Nat} {vs:List Int} (t:TxV H O b hw hs hp pts x) (g:MapG iA (fun i=>i) tF es c vs) (nd:vs.Nodup):TxV (H.set hs (.map es c)) O b hw hs hp pts { x with said:=vs }:=by
  obtain ⟨hb,⟨⟨q3,c3,a3,g3⟩,n,ln⟩,p,pl,⟨e4,c4,a,g4⟩,snd,atp,n1,n2,n3,n4,n5,n6,o⟩:=t
  exact ⟨hset n2.symm hb,⟨⟨q3,c3,hset n4.symm a3,g3⟩,n,ln⟩,p,pl,⟨es,c,hself a,g⟩,nd,hset n6 atp,n1,n2,n3,n4,n5,n6,o⟩
theorem TxV.fresh (t:TxV H O b hw hs hp pts x) (low:∀i∈O,i < H.length) (e1:y.ws=x.ws) (e2:y.spl=x.spl) (e3:y.parts=x.parts) (e4:y.said=[]):TxV ((H ++ [HObj.map [] 0]).set b (.cells (txq y hw (lstI x.parts) (.row (.heap hp) 0 (pts.length + 1) (pts.length + 1)) (.map H.length)))) (H.length :: O) b hw H.length hp pts y:=by
  obtain ⟨hb,⟨⟨q3,c3,a3,g3⟩,n,ln⟩,p,pl,⟨e5,c5,a,g5⟩,snd,atp,n1,n2,n3,n4,n5,n6,⟨o1,o2,o3,o4⟩⟩:=t
  have l1:=low _ o1
  have l2:=low _ o2
  have l4:=low _ o4
  rw [←e3]
  refine ⟨hself (happ hb),⟨⟨q3,c3,hset n1 (happ a3),?_⟩,?_,?_⟩,?_,by rw [e2]; exact pl,⟨[],0,hset (o:=HObj.map [] 0) (by omega) (by simp),?_⟩,?_,?_,n1,by omega,n3,by omega,n5,by omega,List.mem_cons_of_mem _ o1,List.mem_cons_of_mem _ o2,List.mem_cons_self,List.mem_cons_of_mem _ o4⟩
  · rw [e1]; exact g3
  · rw [e1]; exact n
  · rw [e1]; exact ln
  · rw [e3,e2]; exact p
  · rw [e4]; exact ⟨rfl,.nil,fun e h=>by cases h⟩
  · rw [e4]; exact .nil
  · rw [e2]; exact hset n3 (happ atp)
end
theorem pw_ne {α:Type} {R:α→α→Prop} (hs:∀a b,R a b→R b a):∀{l:List α},l.Pairwise R→∀a∈l,∀b∈l,a≠b→R a b
  | [],_,a,ha,_,_,_=>by cases ha
  | x :: l,h,a,ha,b,hb,hne=>by
    obtain ⟨h1,h2⟩:=List.pairwise_cons.1 h
    rcases List.mem_cons.1 ha with e | ha' <;> rcases List.mem_cons.1 hb with e' | hb'
    · exact absurd (e.trans e'.symm) hne
    · rw [e]; exact h1 b hb'
    · rw [e']; exact hs _ _ (h1 a ha')
    · exact pw_ne hs h2 a ha' b hb' hne
structure FT where
  id:Int
  b:Nat
  O:List Nat
  x:Tx1
def FT.p (t:FT):Int×Tx1:=(t.id,t.x)
def ptF (t:FT):AV := .ptr (.heap t.b) 0
structure FrG (H:List HObj) (O:List Nat) (h hl ht:Nat) (pts:List Key) (l:List FT):Prop where
  at0:H[h]? = some (.cells [.ptr (.heap ht) 0,.map hl])
  tab:H[ht]? = some (tabA pts)
  atl:∃es c,H[hl]? = some (.map es c)∧MapG iA FT.id ptF es c l
  nd:(l.map FT.id).Nodup
  ne:h≠hl
  tx:∀t∈l,TxP H t.O t.b pts t.x∧∀i∈t.O,i∈O∧i≠h∧i≠hl
  dis:l.Pairwise (fun s t=>∀i∈s.O,i∉t.O)
  own:h∈O∧hl∈O
  low:∀i∈O,i < H.length
  nt:ht∉O
def FrA (H:List HObj) (O:List Nat) (h ht:Nat) (pts:List Key) (q:List (Int×Tx1)):Prop:=∃hl l,FrG H O h hl ht pts l∧l.map FT.p=q
def getQ (q:List (Int×Tx1)) (id:Int):Option Tx1:=(q.find? fun p=>decide (p.1=id)).map Prod.snd
def putQ (q:List (Int×Tx1)) (id:Int) (x:Tx1):List (Int×Tx1):=q.map fun p=>if p.1=id then (id,x) else p
theorem getQ_FT:∀{l:List FT} {id:Int},getQ (l.map FT.p) id=(getB FT.id l id).map FT.x
  | [],id=>rfl
  | t :: l,id=>by
    have ih:=getQ_FT (l:=l) (id:=id)
    unfold getQ getB at ih ⊢
    rw [List.map_cons,List.find?_cons,List.find?_cons]
    by_cases e:t.id=id
    · rw [show decide ((FT.p t).1=id)=true from decide_eq_true e,decide_eq_true e]; rfl
    · rw [show decide ((FT.p t).1=id)=false from decide_eq_false e,decide_eq_false e]; exact ih
section
variable {H H':List HObj} {O O':List Nat} {h hl ht:Nat} {pts:List Key} {l:List FT}
theorem FrG.look {S:List (List AV)} (t:FrG H O h hl ht pts l) (i:Int):lookupL (.one (.int .i64)) (.s .nilP) false (.map hl) (.s (.int .i64 i)) ⟨S,H⟩=some (match getB FT.id l i with | some t=>ptF t | none => .s .nilP):=by
  obtain ⟨es,c,a,g⟩:=t.atl
  have:=map_look keyK_int (S:=S) (k:=i) (z := .s .nilP) (ok:=false) a g.rel
  rw [show iA i=AV.s (.int .i64 i) from rfl] at this
  rw [this]
  cases getB FT.id l i <;> rfl
theorem FrG.keep {k:List Nat} (t:FrG H O h hl ht pts l) (e:KeepF H H' k) (e1:∀i∈O,i∉k) (e2:ht∉k):FrG H' O h hl ht pts l:=by
  obtain ⟨es,c,a,g⟩:=t.atl
  exact ⟨e.get t.at0 (e1 _ t.own.1),e.get t.tab e2,⟨es,c,e.get a (e1 _ t.own.2),g⟩,t.nd,t.ne,fun s hs=>⟨(t.tx s hs).1.keep e (fun i hi=>e1 i ((t.tx s hs).2 i hi).1) (fun _ h=>h),(t.tx s hs).2⟩,t.dis,t.own,fun i hi=>Nat.lt_of_lt_of_le (t.low i hi) e.1,t.nt⟩
theorem FrG.step {s:FT} {x:Tx1} {P:List Nat} (t:FrG H O h hl ht pts l) (hs:s∈l) (lf:Left H H' s.O P) (tp:TxP H' P s.b pts x) (lw:∀i∈P,i < H'.length):FrG H' (O ++ P) h hl ht pts (l.map fun r=>if r.id=s.id then ⟨s.id,s.b,P,x⟩ else r)∧Left H H' O (O ++ P):=by
  have k:=lf.keep
  have own:=(t.tx s hs).2
  have hP:∀i∈P,i∉O→H.length≤i:=fun i hi ho=>(lf.old i hi).elim (fun q=>absurd (own i q).1 ho) id
  have hPn:∀i∈P,i≠h∧i≠hl∧i≠ht:=fun i hi=>by
    have a1:=hlt t.at0
    have a2:=hlt t.tab
    obtain ⟨_,_,a3,_⟩:=t.atl
    have a3:=hlt a3
    rcases lf.old i hi with q | q
    · exact ⟨(own i q).2.1,(own i q).2.2,fun e=>t.nt (e▸(own i q).1)⟩
    · omega
  obtain ⟨es,c,a,g⟩:=t.atl
  have kO:KeepF H H' O:=k.mono fun i hi => .inl (own i hi).1
  have hn1:h∉s.O:=fun q=>(own h q).2.1 rfl
  have hn2:hl∉s.O:=fun q=>(own hl q).2.2 rfl
  have hn3:ht∉s.O:=fun q=>t.nt (own ht q).1
  have hid:∀r∈l,r.id=s.id→r=s:=fun r hr e=>by
    have:=t.nd
    rw [List.Nodup,List.pairwise_map] at this
    by_cases q:r=s
    · exact q
    · exact absurd e (pw_ne (R:=fun a b:FT=>a.id≠b.id) (fun _ _ f e=>f e.symm) this r hr s hs q)
  have hdis:∀r∈l,r≠s→∀i∈r.O,i∉s.O:=fun r hr e => 
    pw_ne (R:=fun a b:FT=>∀i∈a.O,i∉b.O) (fun _ _ f i hi hj=>f i hj hi) t.dis r hr s hs e
  have hmapid:(l.map fun r=>if r.id=s.id then (⟨s.id,s.b,P,x⟩:FT) else r).map FT.id=l.map FT.id:=by
    rw [List.map_map]
    refine List.map_congr_left fun r _ => ?_
    dsimp only [Function.comp]
    split
    · rename_i e; exact e.symm
    · rfl
  refine ⟨⟨k.get t.at0 hn1,k.get t.tab hn3,⟨es,c,k.get a hn2,?_,g.nd,g.lt⟩,by rw [hmapid]; exact t.nd,t.ne,?_,?_,⟨List.mem_append_left _ t.own.1,List.mem_append_left _ t.own.2⟩,?_,?_⟩,⟨kO,fun i hi=>(List.mem_append.1 hi).elim .inl fun q=>(lf.old i q).imp (fun q=>(own i q).1) id⟩⟩
  · have:=g.rel
    unfold RelM at this ⊢
    rw [this,List.map_map]
    refine List.map_congr_left fun r hr => ?_
    dsimp only [Function.comp]
    split
    · rename_i e; rw [hid r hr e]; rfl
    · rfl
  · intro r hr
    obtain ⟨r',hr',rfl⟩:=List.mem_map.1 hr
    by_cases e:r'.id=s.id
    · rw [if_pos e]
      exact ⟨tp,fun i hi=>⟨List.mem_append_right _ hi,(hPn i hi).1,(hPn i hi).2.1⟩⟩
    · rw [if_neg e]
      have hne:r'≠s:=fun q=>e (by rw [q])
      exact ⟨(t.tx r' hr').1.keep k (hdis r' hr' hne) (fun _ h=>h),fun i hi=>⟨List.mem_append_left _ ((t.tx r' hr').2 i hi).1,((t.tx r' hr').2 i hi).2⟩⟩
  · rw [List.pairwise_map]
    refine List.Pairwise.imp_of_mem ?_ (t.dis.and (by have:=t.nd; rw [List.Nodup,List.pairwise_map] at this; exact this))
    rintro r r' hr hr' ⟨f,f2⟩ i hi hj
    have low:∀u∈l,∀i∈u.O,i < H.length:=fun u hu i hi=>t.low i ((t.tx u hu).2 i hi).1
    by_cases e:r.id=s.id <;> by_cases e':r'.id=s.id
    · exact f2 (e.trans e'.symm)
    · rw [if_pos e] at hi; rw [if_neg e'] at hj
      rcases lf.old i hi with q | q
      · exact hdis r' hr' (fun q=>e' (by rw [q])) i hj q
      · have:=low r' hr' i hj; omega
    · rw [if_neg e] at hi; rw [if_pos e'] at hj
      rcases lf.old i hj with q | q
      · exact hdis r hr (fun q=>e (by rw [q])) i hi q
      · have:=low r hr i hi; omega
    · rw [if_neg e] at hi; rw [if_neg e'] at hj
      exact f i hi hj
  · intro i hi
    rcases List.mem_append.1 hi with q | q
    · exact Nat.lt_of_lt_of_le (t.low i q) k.1
    · exact lw i q
  · intro q
    rcases List.mem_append.1 q with q | q
    · exact t.nt q
    · exact (hPn ht q).2.2 rfl
theorem FT_put {s:FT} {x:Tx1} {P:List Nat}:(l.map fun r=>if r.id=s.id then (⟨s.id,s.b,P,x⟩:FT) else r).map FT.p=putQ (l.map FT.p) s.id x:=by
  unfold putQ
  rw [List.map_map,List.map_map]
  refine List.map_congr_left fun r _ => ?_
  dsimp only [Function.comp]
  by_cases e:r.id=s.id
  · rw [if_pos e]
    rw [show (FT.p r).1=r.id from rfl,if_pos e]; rfl
  · rw [if_neg e]
    rw [show (FT.p r).1=r.id from rfl,if_neg e]
end
def NewFS (C:CallW) (f:FuncId):Prop:=∀(ht:Nat) (pts:List Key) S H (K:AV→St→Prop),H[ht]? = some (tabA pts)→(∀H' h O,FrA H' O h ht pts []→Left H H' [] O→K (.ptr (.heap h) 0) ⟨S,H'⟩)→C (.fn f) [.ptr (.heap ht) 0] ⟨S,H⟩ K
theorem front_New_spec {C:CallW} (P:Program):∀(ht:Nat) (pts:List Key) S H (K:AV→St→Prop),H[ht]? = some (tabA pts)→(∀H' h O,FrA H' O h ht pts []→Left H H' [] O→K (.ptr (.heap h) 0) ⟨S,H'⟩)→runL C P Cz3f [.ptr (.heap ht) 0] ⟨S,H⟩ K:=by
  intro ht pts S H K tb hK
  have hl:=hlt tb
  have hK:=hK (H ++ [.map [] 0,.cells [.ptr (.heap ht) 0,.map H.length]]) (H.length + 1) [H.length + 1,H.length] ⟨H.length,[],⟨by simp,happ tb,⟨[],0,by simp,rfl,.nil,fun e h=>by cases h⟩,.nil,by omega,fun t h=>(by cases h),.nil,by simp,fun i hi=>by simp at hi ⊢; omega,fun q=>by simp at q; omega⟩,rfl⟩ ⟨.app,fun i hi => .inr (by
    have:i=H.length + 1∨i=H.length:=by simpa using hi
    omega)⟩
  simp only [Cz3f,A_,simprocAttr,ne_eq,Uz74.1]
  exact hK
end Go.AM
namespace Go.AM
open Go
set_option maxRecDepth 20000
theorem re0F:refEq 0 (.s .nilP) (.s .nilP)=some true:=rfl
theorem re1F {n:Nat}:refEq 0 (.ptr (.heap n) 0) (.s .nilP)=some false:=rfl
section
variable {H H':List HObj} {O O':List Nat} {h hl ht:Nat} {pts:List Key} {l:List FT}
theorem getQ_none {id:Int} (e:getB FT.id l id=none):getQ (l.map FT.p) id=none:=by rw [getQ_FT,e]; rfl
theorem getQ_some {id:Int} {s:FT} (e:getB FT.id l id=some s):getQ (l.map FT.p) id=some s.x:=by rw [getQ_FT,e]; rfl
theorem FrG.bAt (t:FrG H O h hl ht pts l) {s:FT} (hs:s∈l):∀i∈s.O,i < H.length:=fun i hi=>t.low i ((t.tx s hs).2 i hi).1
theorem FrG.add {x:Tx1} {id:Int} (t:FrG H O h hl ht pts l) (hn:∀s∈l,s.id≠id) {es:List Entry} {c:Nat} (a:H[hl]? = some (.map es c)) (g:MapG iA FT.id ptF es c l) {s:Stp}:FrG ((H ++ [HObj.map [] 0,HObj.cells (txq (tx0 s) H.length (.s .nilS) (.s .nilS) (.s .nilM))]).set hl (HObj.map (es ++ [⟨AV.s (.int .i64 id),AV.ptr (.heap (H.length + 1)) 0,c⟩]) (c + 1))) (O ++ [H.length + 1,H.length]) h hl ht pts (l ++ [⟨id,H.length + 1,[H.length + 1,H.length],tx0 s⟩]):=by
  have l0:=hlt t.at0
  have l1:=hlt a
  have l2:=hlt t.tab
  have hnt:ht≠hl:=fun e=>t.nt (e▸t.own.2)
  refine ⟨hset t.ne.symm (happ t.at0),hset hnt.symm (happ t.tab),⟨_,_,hself (happ a),g.new (x:=(⟨id,H.length + 1,[H.length + 1,H.length],tx0 s⟩:FT))⟩,?_,t.ne,?_,?_,⟨List.mem_append_left _ t.own.1,List.mem_append_left _ t.own.2⟩,?_,?_⟩
  · rw [List.map_append,List.nodup_append]
    exact ⟨t.nd,by simp,fun i hi j hj e=>by
      obtain ⟨r,hr,rfl⟩:=List.mem_map.1 hi
      have hj:j=id:=by simpa using hj
      exact hn r hr (e.trans hj)⟩
  · intro r hr
    rcases List.mem_append.1 hr with hr | hr
    · obtain ⟨q1,q2⟩:=t.tx r hr
      refine ⟨q1.keep (l:=[hl]) ⟨by simp,fun i hi e => ?_⟩ (fun i hi e=>(q2 i hi).2.2 (by simpa using e)) (fun _ h=>h),fun i hi=>⟨List.mem_append_left _ (q2 i hi).1,(q2 i hi).2⟩⟩
      rw [List.getElem?_set_ne (fun q=>e (by rw [q]; simp)),List.getElem?_append_left hi]
    · have hr:r=_:=List.mem_singleton.1 hr
      subst hr
      refine ⟨.inl ⟨H.length,hset (show hl≠H.length + 1 by omega) (by simp),⟨⟨[],0,hset (o:=HObj.map [] 0) (by omega) (by simp),rfl,.nil,fun e h=>by cases h⟩,.nil,by simp [tx0]⟩,rfl,rfl,Nat.succ_ne_self _,by simp⟩,fun i hi=>⟨List.mem_append_right _ hi,?_⟩⟩
      have:i=H.length + 1∨i=H.length:=by simpa using hi
      omega
  · rw [List.pairwise_append]
    refine ⟨t.dis,by simp,fun r hr r' hr' i hi hj => ?_⟩
    have hr':r'=_:=List.mem_singleton.1 hr'
    subst hr'
    have:=t.bAt hr i hi
    have hj:i=H.length + 1∨i=H.length:=by simpa using hj
    omega
  · intro i hi
    rw [List.length_set,List.length_append]
    rcases List.mem_append.1 hi with q | q
    · have:=t.low i q; omega
    · have:i=H.length + 1∨i=H.length:=by simpa using q
      simp; omega
  · intro q
    rcases List.mem_append.1 q with q | q
    · exact t.nt q
    · have:ht=H.length + 1∨ht=H.length:=by simpa using q
      omega
end
def beginQ (q:List (Int×Tx1)) (id:Int) (s:Stp):Int×List (Int×Tx1):=if id < 1 then (1,q) else if goodS s=false then (1,q) else match getQ q id with | some _=>(5,q) | none=>(0,q ++ [(id,tx0 s)])
def FBegS (C:CallW) (f:FuncId):Prop:=∀(h ht:Nat) (pts:List Key) (O:List Nat) (q:List (Int×Tx1)) (id:Int) (s:Stp) S H (K:AV→St→Prop),FrA H O h ht pts q→(∀H' O',FrA H' O' h ht pts (beginQ q id s).2→Left H H' O O'→K (.s (.int .i64 (beginQ q id s).1)) ⟨S,H'⟩)→C (.fn f) [.ptr (.heap h) 0,.s (.int .i64 id),.agg (stc s)] ⟨S,H⟩ K
set_option maxHeartbeats 4000000 in
theorem front_Begin_spec {C:CallW} (P:Program) {c:Nat→FuncId} (h0:∀s:Stp,FnS C (c 0) [.agg (stc s)] (.bool (goodS s))):∀(h ht:Nat) (pts:List Key) (O:List Nat) (q:List (Int×Tx1)) (id:Int) (s:Stp) S H (K:AV→St→Prop),FrA H O h ht pts q→(∀H' O',FrA H' O' h ht pts (beginQ q id s).2→Left H H' O O'→K (.s (.int .i64 (beginQ q id s).1)) ⟨S,H'⟩)→runL C P (Czi c) [.ptr (.heap h) 0,.s (.int .i64 id),.agg (stc s)] ⟨S,H⟩ K:=by
  rintro h ht pts O q id s S H K ⟨hl,l,t,rfl⟩ hK
  have a0:=t.at0
  have lk:=fun S'=>t.look (S:=S') id
  unfold beginQ at hK
  simp only [stc,Czi,A_,simprocAttr,ne_eq,(Uzs _).1]
  by_cases h1:id < 1
  · rw [if_pos h1] at hK
    simp only [stc,Czi,A_,simprocAttr,ne_eq,(Uzs _).1,h1]
    exact hK H O ⟨hl,l,t,rfl⟩ .refl
  rw [if_neg h1] at hK
  simp only [stc,Czi,A_,simprocAttr,ne_eq,(Uzs _).1,h1]
  refine h0 s _ _ _ ?_
  cases h2:goodS s with
  | false =>
    rw [if_pos h2] at hK
    simp only [stc,Czi,A_,simprocAttr,ne_eq,(Uzs _).1]
    exact hK H O ⟨hl,l,t,rfl⟩ .refl
  | true =>
  rw [if_neg (by rw [h2]; decide)] at hK
  cases hg:getB FT.id l id with
  | some r =>
    rw [getQ_some hg] at hK
    dsimp only at hK
    rw [hg] at lk
    simp only [stc,Czi,A_,simprocAttr,ne_eq,(Uzs _).1,a0,lk,ptF,re1F,re0F]
    exact hK H O ⟨hl,l,t,rfl⟩ .refl
  | none =>
    rw [getQ_none hg] at hK
    dsimp only at hK
    rw [hg] at lk
    obtain ⟨es,c',a,g⟩:=t.atl
    have hn:=getB_none hg
    have l0:=hlt a0
    have l1:=hlt a
    have hlH:hl≠H.length:=by omega
    have u:=fun S'=>map_new keyK_int (S:=S') (H:=H ++ [.map [] 0,.cells (txq (tx0 s) H.length (.s .nilS) (.s .nilS) (.s .nilM))]) (k:=id) (v := .ptr (.heap (H.length + 1)) 0) (happ a) g.rel hn rfl
    have u:∀S',updateL (.one (.int .i64)) (.map hl) (.s (.int .i64 id)) (.ptr (.heap (H.length + 1)) 0) ⟨S',H ++ [.map [] 0,.cells [.s (.int .i64 s.t),u8 s.n,.map H.length,.s (.int .i64 0),.s .nilS,.s .nilS,.s .nilM,.s (.bool false),.s (.int .i64 0),.s (.int .u8 0),.s (.int .i64 0)]]⟩=some ⟨S',(H ++ [HObj.map [] 0,HObj.cells (txq (tx0 s) H.length (.s .nilS) (.s .nilS) (.s .nilM))]).set hl (HObj.map (es ++ [⟨AV.s (.int .i64 id),AV.ptr (.heap (H.length + 1)) 0,c'⟩]) (c' + 1))⟩:=u
    have tn:=t.add (x:=tx0 s) hn a g (s:=s)
    have a0':∀o:HObj,(H ++ [o])[h]? = some (.cells [.ptr (.heap ht) 0,.map hl]):=fun o=>happ a0
    have a0'':∀o o':HObj,(H ++ [o,o'])[h]? = some (.cells [.ptr (.heap ht) 0,.map hl]):=fun o o'=>happ a0
    simp only [stc,Czi,A_,simprocAttr,ne_eq,(Uzs _).1,CHK_,Nat.reduceBEq,a0,a0',a0'',lk,u,re0F]
    refine hK _ _ ⟨hl,_,tn,by rw [List.map_append]; rfl⟩ ⟨⟨by simp,fun i hi e => ?_⟩,fun i hi => ?_⟩
    · rw [List.getElem?_set_ne (fun q=>e (by rw [←q]; exact t.own.2)),List.getElem?_append_left hi]
    · rcases List.mem_append.1 hi with q | q
      · exact .inl q
      · have:i=H.length + 1∨i=H.length:=by simpa using q
        exact .inr (by omega)
theorem TxP.cell {H:List HObj} {O:List Nat} {b:Nat} {pts:List Key} {x:Tx1} (t:TxP H O b pts x):∃hw pv sv dv,H[b]? = some (.cells (txq x hw pv sv dv)):=by
  rcases t with ⟨hw,t⟩ | ⟨hw,hs,hp,t⟩
  · exact ⟨_,_,_,_,t.atb⟩
  · exact ⟨_,_,_,_,t.atb⟩
theorem getB_memF {l:List FT} {id:Int} {s:FT} (h:getB FT.id l id=some s):s∈l∧s.id=id:=by
  unfold getB at h
  exact ⟨List.mem_of_find?_eq_some h,by simpa using List.find?_some h⟩
def freshV (o:Option FT):AV:=match o with
  | none => .tup [.s .nilP,.s (.int .i64 4)]
  | some s=>if s.x.step=0 then .tup [ptF s,.s (.int .i64 0)] else .tup [.s .nilP,.s (.int .i64 10)]
def FreshS (C:CallW) (f:FuncId):Prop:=∀(h hl ht:Nat) (pts:List Key) (O:List Nat) (l:List FT) (id:Int) S H (K:AV→St→Prop),FrG H O h hl ht pts l→K (freshV (getB FT.id l id)) ⟨S,H⟩→C (.fn f) [.ptr (.heap h) 0,.s (.int .i64 id)] ⟨S,H⟩ K
set_option maxHeartbeats 4000000 in
theorem front_fresh_spec {C:CallW} (P:Program):∀(h hl ht:Nat) (pts:List Key) (O:List Nat) (l:List FT) (id:Int) S H (K:AV→St→Prop),FrG H O h hl ht pts l→K (freshV (getB FT.id l id)) ⟨S,H⟩→runL C P Cz15 [.ptr (.heap h) 0,.s (.int .i64 id)] ⟨S,H⟩ K:=by
  intro h hl ht pts O l id S H K t hK
  have a0:=t.at0
  have lk:=fun S'=>t.look (S:=S') id
  unfold freshV at hK
  cases hg:getB FT.id l id with
  | none =>
    rw [hg] at hK lk
    simp only [Cz15,A_,simprocAttr,ne_eq,Uz1r.1,CHK_,Nat.reduceBEq,a0,lk,re0F]
    exact hK
  | some s =>
    rw [hg] at hK lk
    obtain ⟨hs,hid⟩:=getB_memF hg
    obtain ⟨hw,pv,sv,dv,ab⟩:=(t.tx s hs).1.cell
    simp only [txq] at ab
    dsimp only at hK
    by_cases h1:s.x.step=0
    · rw [if_pos h1] at hK
      simp only [Cz15,A_,simprocAttr,ne_eq,Uz1r.1,CHK_,Nat.reduceBEq,a0,lk,ptF,re1F,ab,h1]
      exact hK
    · rw [if_neg h1] at hK
      have h1:(s.x.step=0)=False:=eq_false h1
      simp only [Cz15,A_,simprocAttr,ne_eq,Uz1r.1,CHK_,Nat.reduceBEq,a0,lk,ptF,re1F,ab,h1]
      exact hK
end Go.AM
namespace Go.AM
open Go
set_option maxRecDepth 20000
section
variable {H H':List HObj} {O O':List Nat} {h hl ht hw b:Nat} {pts:List Key} {l:List FT} {x:Tx1}
theorem mapkw_look {ws:List Wr} (t:MapKW H hw ws) {S:List (List AV)} (k:Key) (z:AV) (ok:Bool):lookupL (.leaf lk) z ok (.map hw) (.agg (bs k.b)) ⟨S,H⟩=some (lookR wA z ok (getB Wr.key ws k)):=by
  obtain ⟨es,c,a,g⟩:=t.map
  exact map_look keyK_key (k:=k) (z:=z) (ok:=ok) a g.rel
theorem mapkw_len {ws:List Wr} (t:MapKW H hw ws) {S:List (List AV)}:lenL .map (.map hw) ⟨S,H⟩=some ws.length:=by
  obtain ⟨es,c,a,g⟩:=t.map
  have hlen:es.length=ws.length:=by have:=congrArg List.length g.rel; simpa [RelM] using this
  simp [lenL,mapOf,a,hlen]
theorem putM_ndW {ws:List Wr} {w:Wr} (h:(ws.map Wr.key).Nodup):((putM Wr.key ws w).map Wr.key).Nodup:=by
  unfold putM
  cases hg:getB Wr.key ws w.key with
  | none =>
    have:=getB_none hg
    rw [List.map_append,List.nodup_append]
    exact ⟨h,by simp,fun a ha b hb e=>by
      obtain ⟨y,hy,rfl⟩:=List.mem_map.1 ha
      have hb:b=w.key:=by simpa using hb
      exact this y hy (e.trans hb)⟩
  | some y =>
    have:(ws.map fun y=>if y.key=w.key then w else y).map Wr.key=ws.map Wr.key:=by
      rw [List.map_map]
      refine List.map_congr_left fun z _ => ?_
      dsimp only [Function.comp]
      split
      · rename_i e; exact e.symm
      · rfl
    dsimp only
    rw [this]; exact h
theorem putM_lenW {ws:List Wr} {w:Wr}:(putM Wr.key ws w).length=if (getB Wr.key ws w.key).isSome then ws.length else ws.length + 1:=by
  unfold putM
  cases getB Wr.key ws w.key <;> simp
theorem TxP.mapw (t:TxP H O b pts x):∃hw pv sv dv,H[b]? = some (.cells (txq x hw pv sv dv))∧MapKW H hw x.ws∧∀w:Wr,(putM Wr.key x.ws w).length≤1000→∃es c,(∀S:List (List AV),updateL (.leaf lk) (.map hw) (.agg (bs w.key.b)) (wA w) ⟨S,H⟩=some ⟨S,H.set hw (.map es c)⟩)∧TxP (H.set hw (.map es c)) O b pts { x with ws:=putM Wr.key x.ws w }∧hw∈O:=by
  rcases t with ⟨hw,t⟩ | ⟨hw,hs,hp,t⟩
  · refine ⟨_,_,_,_,t.atb,t.atw,fun w hl => ?_⟩
    obtain ⟨es,c,a,g⟩:=t.atw.map
    obtain ⟨es',c',u,g'⟩:=g.upd keyK_key (x:=w) a t.atw.nd ((wc_under:AV.under 0 (wA w)=true))
    exact ⟨es',c',u,.inl ⟨hw,t.setw g' (putM_ndW t.atw.nd) hl⟩,t.own.2⟩
  · refine ⟨_,_,_,_,t.atb,t.atw,fun w hl => ?_⟩
    obtain ⟨es,c,a,g⟩:=t.atw.map
    obtain ⟨es',c',u,g'⟩:=g.upd keyK_key (x:=w) a t.atw.nd ((wc_under:AV.under 0 (wA w)=true))
    exact ⟨es',c',u,.inr ⟨hw,hs,hp,t.setw g' (putM_ndW t.atw.nd) hl⟩,t.own.2.1⟩
theorem FrA.stepG {s:FT} {x:Tx1} {P:List Nat} (t:FrG H O h hl ht pts l) (hs:s∈l) (lf:Left H H' s.O P) (tp:TxP H' P s.b pts x) (lw:∀i∈P,i < H'.length) {id:Int} (e:s.id=id):FrA H' (O ++ P) h ht pts (putQ (l.map FT.p) id x)∧Left H H' O (O ++ P):=by
  subst e
  obtain ⟨a,b⟩:=t.step hs lf tp lw
  exact ⟨⟨hl,_,a,FT_put⟩,b⟩
theorem FrG.app {G:List HObj} (t:FrG H O h hl ht pts l):FrG (H ++ G) O h hl ht pts l:=t.keep (k:=[]) .app (fun _ _ q=>by cases q) (fun q=>by cases q)
end
def fputQ (q:List (Int×Tx1)) (id:Int) (w:Wr):Int×List (Int×Tx1):=match getQ q id with
  | none=>(4,q)
  | some x=>if x.step≠0 then (10,q) else if sgood [] [w]=false then (1,q) else if getB Wr.key x.ws w.key=none∧16≤x.ws.length then (6,q) else (0,putQ q id { x with ws:=putM Wr.key x.ws w })
def FPutS (C:CallW) (f:FuncId):Prop:=∀(h ht:Nat) (pts:List Key) (O:List Nat) (q:List (Int×Tx1)) (id:Int) (w:Wr) S H (K:AV→St→Prop),FrA H O h ht pts q→(∀H' O',FrA H' O' h ht pts (fputQ q id w).2→Left H H' O O'→K (.s (.int .i64 (fputQ q id w).1)) ⟨S,H'⟩)→C (.fn f) [.ptr (.heap h) 0,.s (.int .i64 id),.agg (wc w)] ⟨S,H⟩ K
theorem w1_wk {w:Wr}:WkF [.list .full 18 [.agg (wc w)]] [lstW [w]] := .wk (show WkL [.list .full 18 [.agg (wc w)]] [lstW [w]] from .full .nil) .nil
set_option maxHeartbeats 4000000 in
theorem front_Put_spec {C:CallW} (hW:WkC C) (P:Program) {c:Nat→FuncId} (h0:FreshS C (c 0)) (h1:GoodWS C (c 1)):∀(h ht:Nat) (pts:List Key) (O:List Nat) (q:List (Int×Tx1)) (id:Int) (w:Wr) S H (K:AV→St→Prop),FrA H O h ht pts q→(∀H' O',FrA H' O' h ht pts (fputQ q id w).2→Left H H' O O'→K (.s (.int .i64 (fputQ q id w).1)) ⟨S,H'⟩)→runL C P (Czh c) [.ptr (.heap h) 0,.s (.int .i64 id),.agg (wc w)] ⟨S,H⟩ K:=by
  rintro h ht pts O q id w S H K ⟨hl,l,t,rfl⟩ hK
  unfold fputQ at hK
  simp only [Czh,A_,simprocAttr,ne_eq,(Uzn _).1,WR_]
  refine h0 h hl ht pts O l id _ _ _ t ?_
  cases hg:getB FT.id l id with
  | none =>
    rw [getQ_none hg] at hK
    dsimp only at hK
    simp only [freshV,Czh,A_,simprocAttr,ne_eq,(Uzn _).1,WR_]
    exact hK H O ⟨hl,l,t,rfl⟩ .refl
  | some s =>
  rw [getQ_some hg] at hK
  dsimp only at hK
  obtain ⟨hs,hid⟩:=getB_memF hg
  by_cases h2:s.x.step=0
  case neg =>
    rw [if_pos h2] at hK
    simp only [freshV,h2,Czh,A_,simprocAttr,ne_eq,(Uzn _).1,WR_]
    exact hK H O ⟨hl,l,t,rfl⟩ .refl
  rw [if_neg (fun q=>q h2)] at hK
  simp only [freshV,h2,ptF,Czh,A_,simprocAttr,ne_eq,(Uzn _).1,WR_]
  refine hW _ _ _ _ _ w1_wk (h1 [w] _ _ _ (by simp) fun G => ?_)
  have tG:=t.app (G:=G)
  cases h3:sgood [] [w] with
  | false =>
    rw [if_pos h3] at hK
    simp only [Czh,A_,simprocAttr,ne_eq,(Uzn _).1,WR_]
    exact hK _ O ⟨hl,l,tG,rfl⟩ .app
  | true =>
  rw [if_neg (by rw [h3]; decide)] at hK
  obtain ⟨hw,pv,sv,dv,ab,aw,up⟩:=(tG.tx s hs).1.mapw
  simp only [txq] at ab
  have lkw:=fun S'=>mapkw_look (S:=S') aw w.key (.agg (bs key0.b ++ [.s (.str []),.s (.bool false)])) true
  have ln:=fun S'=>mapkw_len (S:=S') aw
  have go:¬(getB Wr.key s.x.ws w.key=none∧16≤s.x.ws.length)→∃es c,(∀S':List (List AV),updateL (.leaf lk) (.map hw) (.agg (bs w.key.b)) (.agg (wc w)) ⟨S',H ++ G⟩=some ⟨S',(H ++ G).set hw (.map es c)⟩)∧K (.s (.int .i64 0)) ⟨S,(H ++ G).set hw (.map es c)⟩:=by
    intro q
    rw [if_neg q] at hK
    obtain ⟨es,c',u,tp,ho⟩:=up w (by
      rw [putM_lenW]
      have:=aw.len
      split
      · exact this
      · rename_i q2
        have:getB Wr.key s.x.ws w.key=none:=by simpa using q2
        have:s.x.ws.length < 16:=by
          refine Nat.lt_of_not_le fun q3=>q ⟨this,q3⟩
        omega)
    refine ⟨es,c',u,?_⟩
    obtain ⟨f1,f2⟩:=FrA.stepG tG hs (.set ho) tp (fun i hi=>by rw [List.length_set]; exact tG.bAt hs i hi) hid
    exact hK _ _ f1 ((Left.app (O:=O)).trans f2)
  cases h4:getB Wr.key s.x.ws w.key with
  | none =>
    rw [h4] at lkw hK go
    simp only [lookR,if_true] at lkw
    by_cases h5:16≤s.x.ws.length
    · rw [if_pos ⟨rfl,h5⟩] at hK
      have h5':((16:Int)≤(s.x.ws.length:Int))=True:=eq_true (by omega)
      simp only [Czh,A_,simprocAttr,ne_eq,(Uzn _).1,WR_,CHK_,Nat.reduceBEq,ab,lkw,ln,h5']
      exact hK _ O ⟨hl,l,tG,rfl⟩ .app
    · obtain ⟨es,c',u,hK⟩:=go (fun q=>h5 q.2)
      have h5':((16:Int)≤(s.x.ws.length:Int))=False:=eq_false (by omega)
      simp only [Czh,A_,simprocAttr,ne_eq,(Uzn _).1,WR_,CHK_,Nat.reduceBEq,ab,lkw,ln,h5',u]
      exact hK
  | some y =>
    rw [h4] at lkw hK go
    simp only [lookR,if_true] at lkw
    obtain ⟨es,c',u,hK⟩:=go (fun q=>by cases q.1)
    simp only [Czh,A_,simprocAttr,ne_eq,(Uzn _).1,WR_,CHK_,Nat.reduceBEq,ab,lkw,wA,u]
    exact hK
end Go.AM
namespace Go.AM
open Go
open AV renaming undef → uu
set_option maxRecDepth 20000
def EqItS (C:CallW) (f:FuncId):Prop:=∀(a b:List It) S H (K:AV→St→Prop),a.length≤9223372036854775807→b.length≤9223372036854775807→K (.bool (decide (a=b))) ⟨S,H⟩→C (.fn f) [lstIt a,lstIt b] ⟨S,H⟩ K
theorem Equal_Item_spec {C:CallW} (hC:LeC C C) (P:Program):∀(a b:List It) S H (K:AV→St→Prop),a.length≤9223372036854775807→b.length≤9223372036854775807→K (.bool (decide (a=b))) ⟨S,H⟩→runL C P Cz1d [lstIt a,lstIt b] ⟨S,H⟩ K:=by
  intro a b S H K ha hb hK
  by_cases hl:a.length=b.length
  case neg =>
    have hl':¬((a.length:Int)=(b.length:Int)):=by omega
    rw [decide_eq_false (fun e=>hl (by rw [e]))] at hK
    simp only [lstIt,Cz1d,A_,simprocAttr,ne_eq,Uz16.1,hl']
    exact hK
  have hl':=eq_true (show ((a.length:Int)=(b.length:Int)) by omega)
  simp only [lstIt,Cz1d,A_,simprocAttr,ne_eq,Uz16.1,hl']
  refine loop_rule hC (α:=Nat) (fun i=>a.length - i) (fun i=>[.list .sh 17 (a.map itA),.list .sh 17 (b.map itA),uu,uu,uu,uu,uu,uu,uu,uu,uu,uu,.s (.int .i64 a.length),.s (.int .i64 i),uu,uu,uu,uu,uu,uu,uu,uu,uu,uu,uu,uu]) (fun _=>S) (fun _=>H) (fun i=>i≤a.length∧decide (a=b)=decide (a.drop i=b.drop i)) 0 ⟨by simp,by simp⟩ rfl (by simp) rfl (fun a _=>by simp [AV.under,AV.under.go]) ?_
  rintro i ⟨hi,hinv⟩ ih
  by_cases h16:i < a.length
  · have hlt:((i:Int) < (a.length:Int)):=by omega
    have h16':i < b.length:=by omega
    have hw:IntKind.i64.wrap ((i:Int) + 1)=(i:Int) + 1:=wrap_i64 (by omega) (by omega)
    rw [List.drop_eq_getElem_cons h16,List.drop_eq_getElem_cons h16'] at hinv
    by_cases he:a[i]=b[i]
    · have he':=eq_true he
      rw [he] at hinv
      simp only [List.cons.injEq,true_and] at hinv
      simp only [A_,simprocAttr,ne_eq,Uz16.1,IT_,hlt,h16,h16',he',hw]
      exact ih (i + 1) _ _ _ (by omega) ⟨by omega,hinv⟩ rfl (by simp) rfl
    · simp only [List.cons.injEq,he,false_and,decide_false] at hinv
      rw [hinv] at hK
      simp only [A_,simprocAttr,ne_eq,Uz16.1,IT_,hlt,h16,h16',he]
      exact hK
  · have hlt:¬((i:Int) < (a.length:Int)):=by omega
    rw [List.drop_of_length_le (by omega),List.drop_of_length_le (by omega),decide_eq_true rfl] at hinv
    rw [hinv] at hK
    simp only [A_,simprocAttr,ne_eq,Uz16.1,hlt]
    exact hK
end Go.AM
namespace Go.AM
open Go
set_option maxRecDepth 20000
end Go.AM
namespace Go.AM
open Go
set_option maxRecDepth 20000
def brc (m:Msg):List AV:=[.s (.int .i64 m.kind),.s (.int .i64 m.frm),.s (.int .i64 m.tto),.s (.int .i64 m.id),.s (.int .i64 m.num),.s (.int .i64 m.stp.t),u8 m.stp.n] ++ (bs m.key.b ++ (bs m.unt.b ++ [.s (.str m.val),.s (.bool m.found),.s (.bool m.yes),.s (.int .i64 m.err)]))
theorem brc_length (m:Msg):(brc m).length=43:=by simp [brc,kc_length]
theorem brc_under {n:Nat} {m:Msg}:AV.under.go n (brc m)=true:=by simp [brc,under_app',under_bs,AV.under,AV.under.go,under_u8]
theorem brc_look (m:Msg):(brc m).map AV.look=brc m:=by simp [brc,map_look_bs,look_u8]; exact ⟨rfl,rfl,rfl,rfl,rfl,rfl,rfl,rfl,rfl,rfl⟩
theorem brc_take (m:Msg):(brc m).take 43=brc m:=List.take_of_length_le (Nat.le_of_eq (brc_length m))
def bareEq (a b:Msg):Bool:=decide (a.kind=b.kind∧a.frm=b.frm∧a.tto=b.tto∧a.id=b.id∧a.num=b.num∧a.stp=b.stp∧a.key=b.key∧a.unt=b.unt∧a.val=b.val∧a.found=b.found∧a.yes=b.yes∧a.err=b.err)
theorem brc_beq (a b:Msg):AV.beq.go (brc a) (brc b)=bareEq a b:=by
  have e1:=beq_app_k a.unt b.unt
  have e2:=beq_app_k a.key b.key
  simp only [brc,List.cons_append,List.nil_append,AV.beq.go,AV.beq,e1,e2,beq_kk,u8_inj,Bool.and_true,Sc.int.injEq,Sc.str.injEq,Sc.bool.injEq,true_and]
  unfold bareEq
  have:∀x y:Stp,(x=y)=(x.t=y.t∧x.n=y.n):=fun x y=>by cases x; cases y; simp [Stp.mk.injEq]
  simp only [this,Bool.decide_and,Bool.and_assoc]
abbrev brL:List LK:=([.int .i64,.int .i64,.int .i64,.int .i64,.int .i64,.int .i64] ++ lk ++ lk ++ [.int .u8,.str,.bool,.bool,.int .i64])
theorem brL_eq:brL=[.int .i64,.int .i64,.int .i64,.int .i64,.int .i64,.int .i64,.int .u8] ++ (lk ++ (lk ++ [.str,.bool,.bool,.int .i64])):=rfl
theorem brc_fits (m:Msg):fitsL brL (brc m)=true:=by
  rw [brL_eq]
  simp only [brc,List.cons_append,List.nil_append,fitsL,fits_kr,LK.fits,Bool.and_true,decide_true,Bool.true_and,u8]
theorem brc_bin {a b:Msg}:binL .eql (.leaf brL) (.agg (brc a)) (.agg (brc b))=some (.s (.bool (bareEq a b))):=by
  simp only [binL,brc_fits,and_self,if_true,cellsEq,brc_beq]
abbrev brZ:List AV:=([(.s (.int .i64 0)),(.s (.int .i64 0)),(.s (.int .i64 0)),(.s (.int .i64 0)),(.s (.int .i64 0)),(.s (.int .i64 0))] ++ bs key0.b ++ bs key0.b ++ [(.s (.int .u8 0)),(.s (.str [])),(.s (.bool false)),(.s (.bool false)),(.s (.int .i64 0))])
theorem brZ_length:brZ.length=43:=rfl
theorem brc_fill (m:Msg):fillL brZ [(0,1,.s (.int .i64 m.kind)),(1,1,.s (.int .i64 m.frm)),(2,1,.s (.int .i64 m.tto)),(3,1,.s (.int .i64 m.id)),(4,1,.s (.int .i64 m.num)),(5,2,.agg [.s (.int .i64 m.stp.t),u8 m.stp.n]),(7,16,.agg (bs m.key.b)),(23,16,.agg (bs m.unt.b)),(39,1,.s (.str m.val)),(40,1,.s (.bool m.found)),(41,1,.s (.bool m.yes)),(42,1,.s (.int .i64 m.err))]=some (brc m):=by
  have hz:brZ=[(.s (.int .i64 0)),(.s (.int .i64 0)),(.s (.int .i64 0)),(.s (.int .i64 0)),(.s (.int .i64 0)),(.s (.int .i64 0)),(.s (.int .u8 0))] ++ (bs key0.b ++ (bs key0.b ++ [(.s (.str [])),(.s (.bool false)),(.s (.bool false)),(.s (.int .i64 0))])):=rfl
  rw [hz]
  have hf:∀x:UInt8,(u8 x).fit=true:=fun _=>rfl
  simp [fillL,AV.cells,AV.fit,kc_length,take_kcG,drop_kcG,brc]
def PlainS (C:CallW) (f:FuncId):Prop:=∀(m:Msg),FnS C f [.agg (msc m)] (.agg (brc m))
set_option maxHeartbeats 16000000 in
theorem msg_plain_spec {C:CallW} (P:Program):∀(m:Msg) S H (K:AV→St→Prop),K (.agg (brc m)) ⟨S,H⟩→runL C P Cz3h [.agg (msc m)] ⟨S,H⟩ K:=by
  intro m S H K hK
  have hfill:=brc_fill m
  have hl:=brc_length m
  have hzl:=brZ_length
  simp only [List.cons_append,List.nil_append,List.append_assoc,brZ] at hfill hzl
  simp only [msc,Cz3h,A_,simprocAttr,ne_eq,Uz75.1,KG_,hfill,List.append_assoc,hl,hzl,brc_under,brc_take,brc_look]
  exact hK
def SameMS (C:CallW) (f:FuncId):Prop:=∀(a b:Msg) S H (K:AV→St→Prop),okM a→okM b→K (.bool (decide (a=b))) ⟨S,H⟩→C (.fn f) [.agg (msc a),.agg (msc b)] ⟨S,H⟩ K
theorem same_eq (a b:Msg):(decide (a.writes=b.writes) && (decide (a.items=b.items) && bareEq a b))=decide (a=b):=by
  unfold bareEq
  cases a; cases b
  simp only [Msg.mk.injEq,←Bool.decide_and]
  apply decide_eq_decide.2
  constructor
  · rintro ⟨h1,h2,h3,h4,h5,h6,h7,h8,h9,h10,h11,h12,h13,h14⟩
    exact ⟨h3,h4,h5,h6,h7,h8,h9,h10,h1,h2,h11,h12,h13,h14⟩
  · rintro ⟨h3,h4,h5,h6,h7,h8,h9,h10,h1,h2,h11,h12,h13,h14⟩
    exact ⟨h1,h2,h3,h4,h5,h6,h7,h8,h9,h10,h11,h12,h13,h14⟩
set_option maxHeartbeats 16000000 in
theorem msg_Same_spec {C:CallW} (P:Program) {c:Nat→FuncId} (h0:EqWS C (c 0)) (h1:EqItS C (c 1)) (h2:PlainS C (c 2)):∀(a b:Msg) S H (K:AV→St→Prop),okM a→okM b→K (.bool (decide (a=b))) ⟨S,H⟩→runL C P (Cz3t c) [.agg (msc a),.agg (msc b)] ⟨S,H⟩ K:=by
  intro a b S H K ha hb hK
  rw [←same_eq] at hK
  have h0':=h0 a.writes b.writes
  have h1':=h1 a.items b.items
  have h2a:=h2 a
  have h2b:=h2 b
  have hbin := @brc_bin a b
  simp only [brL,List.cons_append,List.nil_append,List.append_assoc] at hbin
  unfold lstW at h0'
  unfold lstIt at h1'
  unfold msc at h2a h2b
  simp only [List.cons_append,List.nil_append] at h2a h2b
  simp only [msc,Cz3t,A_,simprocAttr,ne_eq,(Uz1y _).1,KG_]
  refine h0' _ _ _ ha.1 hb.1 ?_
  simp only [A_,simprocAttr,ne_eq,(Uz1y _).1,KG_]
  refine h1' _ _ _ ha.2.1 hb.2.1 ?_
  cases e1:decide (a.writes=b.writes) with
  | false =>
    rw [e1,Bool.false_and] at hK
    simp only [A_,simprocAttr,ne_eq,(Uz1y _).1,KG_]
    exact hK
  | true =>
  rw [e1,Bool.true_and] at hK
  cases e2:decide (a.items=b.items) with
  | false =>
    rw [e2,Bool.false_and] at hK
    simp only [A_,simprocAttr,ne_eq,(Uz1y _).1,KG_]
    exact hK
  | true =>
  rw [e2,Bool.true_and] at hK
  simp only [A_,simprocAttr,ne_eq,(Uz1y _).1,KG_]
  refine h2a _ _ _ ?_
  simp only [A_,simprocAttr,ne_eq,(Uz1y _).1,KG_]
  refine h2b _ _ _ ?_
  simp only [A_,simprocAttr,ne_eq,(Uz1y _).1,KG_,List.append_assoc,hbin]
  exact hK
end Go.AM
namespace Go.AM
open Go
open AV renaming undef → uu
set_option maxRecDepth 20000
def msg0 (id n:Int):Msg:=⟨0,255,n,id,0,⟨0,0⟩,key0,key0,[],[],[],false,false,0⟩
def sayF (pts:List Key) (id:Int) (x:Tx1) (n:Nat):Msg:=if x.step=1 then { msg0 id n with kind:=5,stp:=x.snap,writes:=partW pts x.spl n } else if x.yes=true then { msg0 id n with kind:=7,stp:=x.st } else { msg0 id n with kind:=8 }
theorem partsC_mem {pts:List Key} {l:List Wr} {n:Nat} (h:n∈partsC pts l):n < pts.length + 1∧partW pts l n≠[]:=by
  unfold partsC at h
  rw [List.mem_filter,List.mem_range] at h
  exact ⟨h.1,by simpa using h.2⟩
theorem partW_len {pts:List Key} {l:List Wr} {n:Nat}:(partW pts l n).length≤l.length:=List.length_filter_le _ _
theorem msc_cellF {m:Msg}:∀c∈msc m,c.isCell=true:=by
  intro c hc
  simp only [msc,List.mem_append,List.mem_cons,List.not_mem_nil,or_false] at hc
  rcases hc with (rfl | rfl | rfl | rfl | rfl | rfl | rfl) | h | h | rfl | rfl | rfl | rfl | rfl | rfl <;> first | rfl | exact u8_isCell c h
theorem wk_pre:∀(l:List AV) {azz bs:List AV},WkL azz bs→WkL (l ++ azz) (l ++ bs)
  | [],_,_,h=>h
  | _ :: l,_,_,h => .same (wk_pre l h)
theorem zM_eq {r:List AV}:bs key0.b ++ (bs key0.b ++ (AV.s (.int .u8 0) :: r))=AV.s (.int .u8 0) :: (bs key0.b ++ (bs key0.b ++ r)):=rfl
theorem st2s {S l:List (List AV)} {H:List HObj} {j off:Nat} {v w:AV} (hj:j < l.length) (h:off + 2≤(l.getD j []).length) (h4:AV.under (S.length + j) v=true) (h5:AV.under (S.length + j) w=true):storeL 2 (.ptr (.stk (S.length + j)) off) (.agg [v,w]) ⟨S ++ l,H⟩=some ⟨S ++ l.set j ((l.getD j []).take off ++ [v,w] ++ (l.getD j []).drop (off + 2)),H⟩:=by
  have e:l.getD j []=l[j]:=by simp [List.getD,hj]
  have hbo:boxOf ⟨S ++ l,H⟩ (.stk (S.length + j))=some l[j]:=by simp [boxOf,hj]
  rw [e] at h ⊢
  simp [storeL,AV.cells,AV.fit,writeCells,hbo,mayHold,AV.under.go,h4,h5,splice,setBox,h]
def SayS (C:CallW) (f:FuncId):Prop:=∀(O:List Nat) (b:Nat) (pts:List Key) (x:Tx1) (id:Int) (n:Nat) S H (K:AV→St→Prop),TxP H O b pts x→n∈x.parts→K (.agg (msc (sayF pts id x n))) ⟨S,H⟩→C (.fn f) [.ptr (.heap b) 0,.s (.int .i64 id),.s (.int .i64 n)] ⟨S,H⟩ K
set_option maxHeartbeats 8000000 in
theorem txn_say_spec {C:CallW} (P:Program) {c:Nat→FuncId} (h0:CloneWS C (c 0)):∀(O:List Nat) (b:Nat) (pts:List Key) (x:Tx1) (id:Int) (n:Nat) S H (K:AV→St→Prop),TxP H O b pts x→n∈x.parts→K (.agg (msc (sayF pts id x n))) ⟨S,H⟩→runL C P (Cz1a c) [.ptr (.heap b) 0,.s (.int .i64 id),.s (.int .i64 n)] ⟨S,H⟩ (WkK K):=by
  intro O b pts x id n S H K t hn hK
  rcases t with ⟨hw,t⟩ | ⟨hw,hs,hp,t⟩
  · rw [t.np] at hn; cases hn
  have ab:=t.atb
  have asp:=t.atp
  have rs:=fun S'=>rd2f (S:=S') (off:=0) (s:=x.snap) ab rfl
  have rt:=fun S'=>rd2f (S:=S') (off:=8) (s:=x.st) ab rfl
  obtain ⟨hn1,hn2⟩:=partsC_mem (t.np▸hn)
  have hsp:=splitC_get (pts:=pts) (l:=x.spl) hn1
  rw [slO_own hn2] at hsp
  have hpl:(partW pts x.spl n).length≤1000000:=Nat.le_trans partW_len (by have:=t.ls.1; omega)
  simp only [txq] at ab
  unfold sayF at hK
  by_cases h1:x.step=1
  · rw [if_pos h1] at hK
    simp only [Cz1a,A_,simprocAttr,ne_eq,(Uz1x _).1,CHK_,Nat.reduceBEq,K4_,KG_,fillL,zM_eq,st2s,List.append_assoc,ab,h1,rs,asp,hsp,hn1,Nat.mul_one]
    refine h0 _ _ _ _ hpl ?_
    simp only [lstW,Cz1a,A_,simprocAttr,ne_eq,(Uz1x _).1,CHK_,Nat.reduceBEq,K4_,KG_,fillL,zM_eq,st2s,List.append_assoc,ab,h1,rs,asp,hsp,hn1,Nat.mul_one]
    refine ⟨_,.inr ?_,hK⟩
    exact WkL.agg (.same (.same (.same (.same (.same (.same (.same (wk_pre _ (wk_pre _ (.same (.nilS (by omega) (.same (.same (.same (.same .nil))))))))))))))) msc_cellF .nil
  · rw [if_neg h1] at hK
    have h1:(x.step=1)=False:=eq_false h1
    by_cases h2:x.yes=true
    · rw [if_pos h2] at hK
      simp only [Cz1a,A_,simprocAttr,ne_eq,(Uz1x _).1,CHK_,Nat.reduceBEq,K4_,KG_,fillL,zM_eq,st2s,List.append_assoc,ab,h1,h2,rt]
      refine ⟨_,.inr ?_,hK⟩
      exact WkL.agg (.same (.same (.same (.same (.same (.same (.same (wk_pre _ (wk_pre _ (.nilS (by omega) (.nilS (by omega) (.same (.same (.same (.same .nil))))))))))))))) msc_cellF .nil
    · rw [if_neg h2] at hK
      have h2:x.yes=false:=by simpa using h2
      simp only [Cz1a,A_,simprocAttr,ne_eq,(Uz1x _).1,CHK_,Nat.reduceBEq,K4_,KG_,fillL,zM_eq,st2s,List.append_assoc,ab,h1,h2,rt]
      refine ⟨_,.inr ?_,hK⟩
      exact WkL.agg (.same (.same (.same (.same (.same (.same (.same (wk_pre _ (wk_pre _ (.nilS (by omega) (.nilS (by omega) (.same (.same (.same (.same .nil))))))))))))))) msc_cellF .nil
def mA (m:Msg):AV := .agg (msc m)
def lstM (l:List Msg):AV := .list .sh 45 (l.map mA)
def allF (pts:List Key) (id:Int) (x:Tx1):List Msg:=(x.parts.filter fun n:Nat => !decide ((n:Int)∈x.said)).map (sayF pts id x)
def FAllS (C:CallW) (f:FuncId):Prop:=∀(O:List Nat) (b:Nat) (pts:List Key) (x:Tx1) (id:Int) S H (K:AV→St→Prop),TxP H O b pts x→K (lstM (allF pts id x)) ⟨S,H⟩→C (.fn f) [.ptr (.heap b) 0,.s (.int .i64 id)] ⟨S,H⟩ K
theorem partsC_len {pts:List Key} {l:List Wr}:(partsC pts l).length≤pts.length + 1:=by
  unfold partsC
  exact Nat.le_trans (List.length_filter_le _ _) (by simp)
theorem TxP.parts_le {H:List HObj} {O:List Nat} {b:Nat} {pts:List Key} {x:Tx1} (t:TxP H O b pts x):x.parts.length≤1000 + pts.length:=by
  rcases t with ⟨hw,t⟩ | ⟨hw,hs,hp,t⟩
  · rw [t.np]; simp
  · rw [t.np]
    have:=partsC_len (pts:=pts) (l:=x.spl); omega
theorem mA_under {n:Nat} {m:Msg}:AV.under n (mA m)=true:=by simp [mA,msc,AV.under,under_app',under_bs,AV.under.go,u8]
theorem msc_under {n:Nat} {m:Msg}:AV.under.go n (msc m)=true:=by simpa [mA,AV.under] using mA_under (n:=n) (m:=m)
theorem lstM_wk {l:List Msg}:WkL [(slG 45 (l.map mA)).sh] [lstM l]:=by
  unfold slG
  cases l with
  | nil=>exact .nilS (by omega) .nil
  | cons a l=>exact .same .nil
set_option maxHeartbeats 8000000 in
theorem txn_all_spec {C:CallW} (hC:LeC C C) (P:Program) {c:Nat→FuncId} (h0:SayS C (c 0)):∀(O:List Nat) (b:Nat) (pts:List Key) (x:Tx1) (id:Int) S H (K:AV→St→Prop),TxP H O b pts x→K (lstM (allF pts id x)) ⟨S,H⟩→runL C P (Czo c) [.ptr (.heap b) 0,.s (.int .i64 id)] ⟨S,H⟩ (WkK K):=by
  intro O b pts x id S H K tp hK
  have tp0:=tp
  rcases tp with ⟨hw,t⟩ | ⟨hw,hs,hp,t⟩
  · have ab:=t.atb
    simp only [txq] at ab
    simp only [Czo,A_,simprocAttr,ne_eq,(Uz11 _).1,CHK_,Nat.reduceBEq,K4_,ab]
    refine loop_rule hC (α:=Unit) (fun _=>0) (fun _=>[.ptr (.heap b) 0,.s (.int .i64 id),uu,uu,uu,.s .nilS,uu,uu,uu,uu,uu,.s .nilS,.s (.int .i64 0),.s (.int .i64 0),uu,uu,uu,uu,uu,uu,uu,uu,uu,uu,uu,uu,uu,uu,uu,uu,uu,uu,uu]) (fun _=>S) (fun _=>H) (fun _=>True) () trivial (by simp [keep,zm]) (by first | rw [List.take_of_length_le (Nat.le_refl _)] | simp) rfl (fun a _=>by simp [AV.under,AV.under.go]) ?_
    intro _ _ ih
    simp only [Czo,A_,simprocAttr,ne_eq,(Uz11 _).1,CHK_,Nat.reduceBEq,K4_,ab]
    unfold allF at hK
    rw [t.np] at hK
    exact ⟨_,.inr (.nilS (by omega) .nil),hK⟩
  · have ab:=t.atb
    simp only [txq] at ab
    have pl:=tp0.parts_le
    have p2:x.parts.length≤pts.length + 1:=by rw [t.np]; exact partsC_len
    have lk2:=fun S' v=>look_f (S:=S') t.ats v
    simp only [lstI] at ab
    simp only [Czo,A_,simprocAttr,ne_eq,(Uz11 _).1,CHK_,Nat.reduceBEq,K4_,ab]
    refine loop_rule hC (α:=Nat) (fun a=>x.parts.length - a) (fun a=>[.ptr (.heap b) 0,.s (.int .i64 id),uu,uu,uu,slG 45 ((((x.parts.take a).filter fun n:Nat => !decide ((n:Int)∈x.said)).map (sayF pts id x)).map mA),uu,uu,uu,uu,uu,.list .sh 1 (x.parts.map fun (n:Nat)=>AV.i n),.s (.int .i64 x.parts.length),.s (.int .i64 a),uu,uu,uu,uu,uu,uu,uu,uu,uu,uu,uu,uu,uu,uu,uu,uu,uu,uu,uu]) (fun _=>S) (fun _=>H) (fun a=>a≤x.parts.length) 0 (by simp) (by simp [keep,zm,slG]) (by first | rw [List.take_of_length_le (Nat.le_refl _)] | simp) rfl (fun a _=>by simp [AV.under,AV.under.go,slG_under]) ?_
    intro i hi ih
    by_cases h16:i < x.parts.length
    · have hlt:((i:Int) < (x.parts.length:Int)):=by omega
      have ls:=t.ls.2
      have hw:IntKind.i64.wrap ((i:Int) + 1)=(i:Int) + 1:=wrap_i64 (by omega) (by omega)
      have htk:x.parts.take (i + 1)=x.parts.take i ++ [x.parts[i]]:=List.take_succ_eq_append_getElem h16
      have hget:(x.parts.map fun (n:Nat)=>AV.i n)[i]? = some (AV.i (x.parts[i]:Nat)):=by simp [h16]
      have hml:(x.parts.map fun (n:Nat)=>AV.i n).length=x.parts.length:=List.length_map ..
      have hix:∀k:IntKind,indexAddrL (.sl 1) (.list .sh 1 (x.parts.map fun (n:Nat)=>AV.i n)) (.s (.int k (i:Int)))=some (.rop [AV.i (x.parts[i]:Nat)]):=fun k=>ixl_map (f:=fun (n:Nat)=>AV.i n) h16 (by omega)
      by_cases hsd:((x.parts[i]:Nat):Int)∈x.said
      · have hf:(x.parts.take (i + 1)).filter (fun n:Nat => !decide ((n:Int)∈x.said))=(x.parts.take i).filter (fun n:Nat => !decide ((n:Int)∈x.said)):=by
          rw [htk,List.filter_append]; simp [hsd]
        simp only [Czo,A_,simprocAttr,ne_eq,(Uz11 _).1,CHK_,Nat.reduceBEq,K4_,hlt,hix,ab,lk2,decide_eq_true hsd,hw]
        exact ih (i + 1) _ _ _ (by omega) (by omega) (by rw [hf]; rfl) (by first | rw [List.take_of_length_le (Nat.le_refl _)] | simp) rfl
      · have hf:(x.parts.take (i + 1)).filter (fun n:Nat => !decide ((n:Int)∈x.said))=(x.parts.take i).filter (fun n:Nat => !decide ((n:Int)∈x.said)) ++ [x.parts[i]]:=by
          rw [htk,List.filter_append]; simp [hsd]
        have ha:∀(e:ET) (σ:St),e.c=45→e.bytes=168→appendL e false (slG 45 ((((x.parts.take i).filter fun n:Nat => !decide ((n:Int)∈x.said)).map (sayF pts id x)).map mA)) (.list .full 45 [.agg (msc (sayF pts id x x.parts[i]))]) σ=some (slG 45 ((((x.parts.take (i + 1)).filter fun n:Nat => !decide ((n:Int)∈x.said)).map (sayF pts id x)).map mA),σ):=by
          intro e σ h1 h2
          rw [hf,List.map_append,List.map_append,←h1]
          refine app_slG mA_under ?_
          have:=List.length_filter_le (fun n:Nat => !decide ((n:Int)∈x.said)) (x.parts.take i)
          rw [List.length_map,List.length_map,h2]
          rw [List.length_take] at this
          omega
        simp only [Czo,A_,simprocAttr,ne_eq,(Uz11 _).1,CHK_,Nat.reduceBEq,K4_,hlt,hix,ab,lk2,decide_eq_false hsd,hw]
        refine h0 O b pts x id (x.parts[i]) _ _ _ tp0 (List.getElem_mem h16) ?_
        simp only [Czo,A_,simprocAttr,ne_eq,(Uz11 _).1,CHK_,Nat.reduceBEq,K4_,hlt,hix,ab,lk2,decide_eq_false hsd,hw,msc_length,msc_under,ha]
        exact ih (i + 1) _ _ _ (by omega) (by omega) (by rfl) (by first | rw [List.take_of_length_le (Nat.le_refl _)] | simp) rfl
    · have hlt:¬((i:Int) < (x.parts.length:Int)):=by omega
      have htk:x.parts.take i=x.parts:=List.take_of_length_le (by omega)
      simp only [Czo,A_,simprocAttr,ne_eq,(Uz11 _).1,CHK_,Nat.reduceBEq,K4_,hlt,htk]
      exact ⟨_,.inr lstM_wk,hK⟩
end Go.AM
