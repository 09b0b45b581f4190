import Derived.Test.YtadcnggbhkpcbaaM12
set_option linter.unusedSimpArgs false
set_option linter.unusedVariables false
namespace Go.AM
open Go
open AV renaming undef → uu
set_option maxRecDepth 20000
def recD (id:Int) (x:Dx) (i:Int):Rec×Bool:=if id=i∧x.known=true then (⟨4,i,⟨0,0⟩,x.st,[],x.yes,x.parts⟩,true) else (zRec,false)
def RecXS (C:CallW) (f:FuncId):Prop:=∀(h hm b hv ha:Nat) (id:Int) (x:Dx) (i:Int) S H (K:AV→St→Prop),CoX H h hm id b hv ha x→K (.tup [.agg (rcc (recD id x i).1),.s (.bool (recD id x i).2)]) ⟨S,H⟩→C (.fn f) [.ptr (.heap h) 0,.s (.int .i64 i)] ⟨S,H⟩ K
set_option maxHeartbeats 8000000 in
theorem coord_Record_spec {C:CallW} (P:Program) {c:Nat→FuncId} (h0:CloneIH C (c 0)):∀(h hm b hv ha:Nat) (id:Int) (x:Dx) (i:Int) S H (K:AV→St→Prop),CoX H h hm id b hv ha x→K (.tup [.agg (rcc (recD id x i).1),.s (.bool (recD id x i).2)]) ⟨S,H⟩→runL C P (C_coord_Coord_Record c) [.ptr (.heap h) 0,.s (.int .i64 i)] ⟨S,H⟩ (WkK K):=by
  intro h hm b hv ha id x i S H K t hK
  have a0:=t.at0
  have ab:=t.atb
  simp only [dxc] at ab
  have rs:=fun S'=>rd2h (S:=S') (off:=6) (s:=x.st) ab rfl
  have hlk:=fun S'=>t.look (S:=S') i
  unfold recD at hK
  have wz:WkL [(AV.tup [.agg [.s (.int .i64 0),.s (.int .i64 0),.s (.int .i64 0),.s (.int .u8 0),.s (.int .i64 0),.s (.int .u8 0),.s .nilS,.s (.bool false),.s .nilS],.s (.bool false)]).sh] [.tup [.agg (rcc zRec),.s (.bool false)]] := .tup (.agg (.same (.same (.same (.same (.same (.same (.nilS (by omega) (.same (.nilS (by omega) .nil))))))))) rcc_cell (.same .nil)) .nil
  by_cases hid:id=i
  · simp only [hid,if_true] at hlk
    by_cases hkn:x.known=true
    · rw [if_pos ⟨hid,hkn⟩] at hK
      simp only [C_coord_Coord_Record,A_,simprocAttr,ne_eq,(U_coord_Coord_Record _).1,CHK_,Nat.reduceBEq,re0,re1,a0,hlk,ab,hkn,rs]
      refine h0 x.parts _ _ _ t.ok.ne t.ok.len ?_
      simp only [lstN,C_coord_Coord_Record,A_,simprocAttr,ne_eq,(U_coord_Coord_Record _).1,CHK_,Nat.reduceBEq,re0,re1,a0,hlk,ab,hkn,rs]
      refine ⟨_,.inr ?_,hK⟩
      exact .tup (.agg (.same (.same (.same (.same (.same (.same (.nilS (by omega) (.same (.same .nil))))))))) rcc_cell (.same .nil)) .nil
    · rw [if_neg (fun q=>hkn q.2)] at hK
      have hkn':x.known=false:=by simpa using hkn
      simp only [C_coord_Coord_Record,A_,simprocAttr,ne_eq,(U_coord_Coord_Record _).1,CHK_,Nat.reduceBEq,re0,re1,a0,hlk,ab,hkn',rs]
      exact ⟨_,.inr wz,hK⟩
  · rw [if_neg (fun q=>hid q.1)] at hK
    simp only [hid,if_false] at hlk
    simp only [C_coord_Coord_Record,A_,simprocAttr,ne_eq,(U_coord_Coord_Record _).1,CHK_,Nat.reduceBEq,re0,re1,a0,hlk]
    exact ⟨_,.inr wz,hK⟩
def Owes1S (C:CallW) (f:FuncId):Prop:=∀(h hm b hv ha:Nat) (id:Int) (x:Dx) (v:Int) (r:Nat) S H (K:AV→St→Prop),CoX H h hm id b hv ha x→S[r]? = some [.ptr (.heap b) 0]→K (.bool (decide (v∈x.acked))) ⟨S,H⟩→C (.fn f) [.s (.int .i64 v),.ptr (.stk r) 0] ⟨S,H⟩ K
theorem coord_Owes1_spec {C:CallW} (P:Program):∀(h hm b hv ha:Nat) (id:Int) (x:Dx) (v:Int) (r:Nat) S H (K:AV→St→Prop),CoX H h hm id b hv ha x→S[r]? = some [.ptr (.heap b) 0]→K (.bool (decide (v∈x.acked))) ⟨S,H⟩→runL C P C_coord_Coord_Owes_1 [.s (.int .i64 v),.ptr (.stk r) 0] ⟨S,H⟩ K:=by
  intro h hm b hv ha id x v r S H K t hr hK
  have ab:=t.atb
  simp only [dxc] at ab
  have hrd:load1L false (.ptr (.stk r) 0) ⟨S,H⟩=some (.ptr (.heap b) 0,⟨S,H⟩):=by
    simp only [load1L,boxOf_stk,hr,Option.bind_some]; rfl
  have lka:=fun S'=>look_b (S:=S') t.ata v
  simp only [C_coord_Coord_Owes_1,A_,simprocAttr,ne_eq,U_coord_Coord_Owes_1.1,hrd,ab,lka]
  exact hK
def owesD (x:Dx):List Int:=x.parts.filter fun v => !decide (v∈x.acked)
def OwesS (C:CallW) (f:FuncId):Prop:=∀(h hm b hv ha:Nat) (id:Int) (x:Dx) S H (K:AV→St→Prop),CoX H h hm id b hv ha x→K (lstN (owesD x)) ⟨S,H⟩→C (.fn f) [.ptr (.heap h) 0,.s (.int .i64 id)] ⟨S,H⟩ K
set_option maxHeartbeats 4000000 in
theorem coord_Owes_spec {C:CallW} (P:Program) {c:Nat→FuncId} (h0:CloneIS C (c 0)) (h1:Owes1S C (c 1)) (h2:DelFS C (c 2)):∀(h hm b hv ha:Nat) (id:Int) (x:Dx) S H (K:AV→St→Prop),CoX H h hm id b hv ha x→K (lstN (owesD x)) ⟨S,H⟩→runL C P (C_coord_Coord_Owes c) [.ptr (.heap h) 0,.s (.int .i64 id)] ⟨S,H⟩ K:=by
  intro h hm b hv ha id x S H K t hK
  have a0:=t.at0
  have ab:=t.atb
  simp only [dxc] at ab
  have hlk:=fun S'=>t.look (S:=S') id
  simp only [if_true] at hlk
  have st:storeL 1 (.ptr (.stk S.length) 0) (.ptr (.heap b) 0) ⟨S ++ [[.s .nilP]],H⟩=some ⟨S ++ [[.ptr (.heap b) 0]],H⟩:=by
    simp [storeL,AV.cells,AV.fit,writeCells,boxOf,mayHold,AV.under.go,AV.under,splice,setBox]
  simp only [C_coord_Coord_Owes,A_,simprocAttr,ne_eq,(U_coord_Coord_Owes _).1,re0,re1,a0,hlk,ab,st]
  refine h0 x.parts _ _ _ t.ok.ne t.ok.len ?_
  simp only [C_coord_Coord_Owes,A_,simprocAttr,ne_eq,(U_coord_Coord_Owes _).1,re0,re1,a0,hlk,ab]
  refine h2 x.parts (c 1) S.length (fun v=>decide (v∈x.acked)) _ _ _ t.ok.ne t.ok.len (by simp) (fun v T K hK => ?_) ?_
  · refine h1 h hm b hv ha id x v S.length _ _ _ t ?_ hK
    simp
  · simp only [lstN,C_coord_Coord_Owes,A_,simprocAttr,ne_eq,(U_coord_Coord_Owes _).1,re0,re1,a0,hlk,ab]
    exact hK
def openD (id:Int) (x:Dx):List Int:=if x.known=false∨owesD x≠[] then [id] else []
def OpenS (C:CallW) (f:FuncId):Prop:=∀(h hm b hv ha:Nat) (id:Int) (x:Dx) S H (K:AV→St→Prop),CoX H h hm id b hv ha x→(∀G,K (lstN (openD id x)) ⟨S,H ++ G⟩)→C (.fn f) [.ptr (.heap h) 0] ⟨S,H⟩ K
set_option maxHeartbeats 8000000 in
theorem coord_Open_spec {C:CallW} (hC:LeC C C) (P:Program) {c:Nat→FuncId} {g:FuncId} (h0:KeysS C (c 0) g) (h1:SortedS C (c 1) g) (h2:OwesS C (c 2)):∀(h hm b hv ha:Nat) (id:Int) (x:Dx) S H (K:AV→St→Prop),CoX H h hm id b hv ha x→(∀G,K (lstN (openD id x)) ⟨S,H ++ G⟩)→runL C P (C_coord_Coord_Open c) [.ptr (.heap h) 0] ⟨S,H⟩ (WkK K):=by
  intro h hm b hv ha' id x S H K t hK
  have a0:=t.at0
  obtain ⟨es,cc,am,g1⟩:=t.atm
  have hes:es.length=1:=by have:=congrArg List.length g1.rel; simpa [RelM] using this
  have hek:∀e∈es,e.key=iA id:=by
    intro e he
    have hr:=g1.rel
    unfold RelM at hr
    have hm2:(e.key,e.val)∈es.map (fun e=>(e.key,e.val)):=List.mem_map.2 ⟨e,he,rfl⟩
    rw [hr] at hm2
    have:=List.mem_singleton.1 hm2
    exact (Prod.mk.inj this).1
  simp only [C_coord_Coord_Open,A_,simprocAttr,ne_eq,(U_coord_Coord_Open _).1,a0]
  refine h0 hm _ _ _ ?_
  simp only [C_coord_Coord_Open,A_,simprocAttr,ne_eq,(U_coord_Coord_Open _).1]
  refine h1 H.length hm cc es (fun _=>id) _ _ _ ⟨by simp,happ am,g1.nd,g1.lt,hek,by omega⟩ fun ids G hp hs => ?_
  have hids:ids=[id]:=by
    have:es.map (fun _=>id)=[id]:=by
      match es,hes with
      | [e],_=>rfl
    rw [this] at hp
    exact List.perm_singleton.1 hp
  subst hids
  rw [List.append_assoc]
  generalize [HObj.cells [AV.map hm]] ++ G=G1
  have t1:=t.app (G:=G1)
  have a1:=t1.at0
  have ab:=t1.atb
  simp only [dxc] at ab
  have hlk:=fun S'=>t1.look (S:=S') id
  simp only [if_true] at hlk
  have hK1:=hK G1
  generalize H ++ G1=H1 at t1 a1 ab hlk hK1 ⊢
  clear hK
  have x1:∀k:IntKind,indexAddrL (.sl 1) (.list .sh 1 [iA id]) (.s (.int k 0))=some (.rop [.s (.int .i64 id)]):=fun k=>rfl
  simp only [lstZ,List.map_cons,List.map_nil,C_coord_Coord_Open,A_,simprocAttr,ne_eq,(U_coord_Coord_Open _).1]
  refine loop_rule hC (α:=Bool) (fun a=>if a then 0 else 1) (fun a=>[.ptr (.heap h) 0,uu,uu,if a then slG 1 ((openD id x).map iA) else .s .nilS,uu,uu,uu,uu,uu,uu,uu,.list .sh 1 [iA id],.s (.int .i64 1),.s (.int .i64 (if a then 1 else 0)),uu,uu,uu,uu,uu,uu,uu,uu,uu,uu,uu,uu,uu,uu,uu,uu,uu,uu,uu,uu,uu,uu,uu,uu,uu,uu]) (fun _=>S) (fun a=>H1) (fun a=>True) false trivial (by simp [keep,zm]) (by simp) rfl (fun a _=>by cases a <;> simp [AV.under,AV.under.go,slG_under]) ?_
  rintro (_ | _) _ ih
  · simp only [if_false,Bool.false_eq_true]
    have ha:∀(e:ET) (σ:St),e.c=1→e.bytes=8→appendL e false (.s .nilS) (.list .full 1 [.s (.int .i64 id)]) σ=some (.list .uniq 1 [iA id],σ):=fun e σ h1 h2=>app_slZ (l:=[]) h1 h2 (by simp)
    by_cases hkn:x.known=true
    · simp only [C_coord_Coord_Open,A_,simprocAttr,ne_eq,(U_coord_Coord_Open _).1,x1,a1,hlk,ab,hkn]
      refine h2 h hm b hv ha' id x _ _ _ t1 ?_
      by_cases ho:owesD x=[]
      · have hd:openD id x=[]:=by unfold openD; rw [if_neg (by rw [hkn,ho]; simp)]
        simp only [lstN,ho,C_coord_Coord_Open,A_,simprocAttr,ne_eq,(U_coord_Coord_Open _).1,x1,a1,hlk,ab,hkn]
        exact ih true _ _ _ (by decide) trivial (by rw [hd]; simp [keep,zm,slG]) (by simp) rfl
      · have hd:openD id x=[id]:=by unfold openD; rw [if_pos (.inr ho)]
        have hlen:((0:Int) < ((owesD x).length:Int))=True:=eq_true (by have:=List.length_pos_iff.2 ho; omega)
        simp only [lstN,C_coord_Coord_Open,A_,simprocAttr,ne_eq,(U_coord_Coord_Open _).1,x1,a1,hlk,ab,hkn,hlen,ha]
        exact ih true _ _ _ (by decide) trivial (by rw [hd]; simp [keep,zm,slG]) (by simp) rfl
    · have hkn':x.known=false:=by simpa using hkn
      have hd:openD id x=[id]:=by unfold openD; rw [if_pos (.inl hkn')]
      simp only [C_coord_Coord_Open,A_,simprocAttr,ne_eq,(U_coord_Coord_Open _).1,x1,a1,hlk,ab,hkn',ha]
      exact ih true _ _ _ (by decide) trivial (by rw [hd]; simp [keep,zm,slG]) (by simp) rfl
  · simp only [if_true]
    simp only [C_coord_Coord_Open,A_,simprocAttr,ne_eq,(U_coord_Coord_Open _).1]
    refine ⟨_,.inr ?_,hK1⟩
    by_cases e:openD id x=[]
    · rw [e]; exact .nilS (by omega) .nil
    · unfold slG
      rw [if_neg (by simpa using e)]
      exact .same .nil
def PlayES (C:CallW) (f:FuncId):Prop:=∀(h hm:Nat) (r:Rec) S H (K:AV→St→Prop),CoE H h hm→okR r→r.parts.length≤1000000→(¬(goodRec r=true∧r.kind=4)→∀G,K (.i 3) ⟨S,H ++ G⟩)→(goodRec r=true∧r.kind=4→∀H' b hv ha,Keep H H' [hm]→H.length≤b→H.length≤hv→H.length≤ha→CoX H' h hm r.id b hv ha ⟨⟨0,0⟩,r.parts,[],true,r.yes,r.stamp,[]⟩→K (.i 0) ⟨S,H'⟩)→C (.fn f) [.ptr (.heap h) 0,.agg (rcc r)] ⟨S,H⟩ K
def PlayXS (C:CallW) (f:FuncId):Prop:=∀(h hm b hv ha:Nat) (id:Int) (x:Dx) (r:Rec) S H (K:AV→St→Prop),CoX H h hm id b hv ha x→okR r→(¬(goodRec r=true∧r.kind=4)→∀G,K (.i 3) ⟨S,H ++ G⟩)→(goodRec r=true∧r.kind=4→r.id=id∧∀G,K (.i 5) ⟨S,H ++ G⟩)→C (.fn f) [.ptr (.heap h) 0,.agg (rcc r)] ⟨S,H⟩ K
theorem goodRec_parts {r:Rec} (h:goodRec r=true) (hk:r.kind=4):goodParts r.parts=true:=by
  unfold goodRec at h
  split at h
  · cases h
  simp only [hk,show ((4:Int)=1)=False from by simp,show ((4:Int)=2)=False from by simp,show ((4:Int)=3)=False from by simp,if_true,if_false] at h
  simp only [Bool.and_eq_true] at h
  exact h.2
set_option maxHeartbeats 8000000 in
theorem coord_PlayX_spec {C:CallW} (P:Program) {c:Nat→FuncId} (h0:GoodRS C (c 0)):∀(h hm b hv ha:Nat) (id:Int) (x:Dx) (r:Rec) S H (K:AV→St→Prop),CoX H h hm id b hv ha x→okR r→(¬(goodRec r=true∧r.kind=4)→∀G,K (.i 3) ⟨S,H ++ G⟩)→(goodRec r=true∧r.kind=4→r.id=id∧∀G,K (.i 5) ⟨S,H ++ G⟩)→runL C P (C_coord_Coord_Play c) [.ptr (.heap h) 0,.agg (rcc r)] ⟨S,H⟩ K:=by
  intro h hm b hv ha id x r S H K t hr hbad hgood
  simp only [rcc,C_coord_Coord_Play,A_,simprocAttr,ne_eq,(U_coord_Coord_Play _).1]
  refine h0 r _ _ _ hr fun G => ?_
  cases hg:goodRec r with
  | false =>
    simp only [C_coord_Coord_Play,A_,simprocAttr,ne_eq,(U_coord_Coord_Play _).1]
    exact hbad (fun q=>by rw [hg] at q; cases q.1) G
  | true =>
  by_cases hk:r.kind=4
  · obtain ⟨e,hK⟩:=hgood ⟨hg,hk⟩
    have t1:=t.app (G:=G)
    have a0:=t1.at0
    have hlk:=fun S'=>t1.look (S:=S') id
    simp only [if_true] at hlk
    have hk':(r.kind=4)=True:=eq_true hk
    simp only [C_coord_Coord_Play,A_,simprocAttr,ne_eq,(U_coord_Coord_Play _).1,CHK_,Nat.reduceBEq,re0,re1,hk',a0,e,hlk]
    exact hK G
  · have hk':(r.kind=4)=False:=eq_false hk
    simp only [C_coord_Coord_Play,A_,simprocAttr,ne_eq,(U_coord_Coord_Play _).1,hk']
    exact hbad (fun q=>hk q.2) G
set_option maxHeartbeats 8000000 in
theorem coord_PlayE_spec {C:CallW} (P:Program) {c:Nat→FuncId} (h0:GoodRS C (c 0)) (h1:CloneIH C (c 1)) (h2:AddCS C (c 2)):∀(h hm:Nat) (r:Rec) S H (K:AV→St→Prop),CoE H h hm→okR r→r.parts.length≤1000000→(¬(goodRec r=true∧r.kind=4)→∀G,K (.i 3) ⟨S,H ++ G⟩)→(goodRec r=true∧r.kind=4→∀H' b hv ha,Keep H H' [hm]→H.length≤b→H.length≤hv→H.length≤ha→CoX H' h hm r.id b hv ha ⟨⟨0,0⟩,r.parts,[],true,r.yes,r.stamp,[]⟩→K (.i 0) ⟨S,H'⟩)→runL C P (C_coord_Coord_Play c) [.ptr (.heap h) 0,.agg (rcc r)] ⟨S,H⟩ K:=by
  intro h hm r S H K t hr hl hbad hgood
  simp only [rcc,C_coord_Coord_Play,A_,simprocAttr,ne_eq,(U_coord_Coord_Play _).1]
  refine h0 r _ _ _ hr fun G => ?_
  cases hg:goodRec r with
  | false =>
    simp only [C_coord_Coord_Play,A_,simprocAttr,ne_eq,(U_coord_Coord_Play _).1]
    exact hbad (fun q=>by rw [hg] at q; cases q.1) G
  | true =>
  by_cases hk:r.kind=4
  · have hok:=hgood ⟨hg,hk⟩
    have hne:=goodParts_ne (goodRec_parts hg hk)
    have k0:Keep H (H ++ G) [hm] := .app
    have t1:CoE (H ++ G) h hm:=⟨happ t.at0,happ t.atm,t.ne⟩
    have hlen:H.length≤(H ++ G).length:=by simp
    generalize H ++ G=H1 at k0 t1 hlen ⊢
    have a0:=t1.at0
    have hlk:=fun S'=>t1.look (S:=S') r.id
    have hk':(r.kind=4)=True:=eq_true hk
    simp only [C_coord_Coord_Play,A_,simprocAttr,ne_eq,(U_coord_Coord_Play _).1,CHK_,Nat.reduceBEq,re0,re1,hk',a0,hlk]
    refine h1 r.parts _ _ _ hne hl ?_
    simp only [lstN,C_coord_Coord_Play,A_,simprocAttr,ne_eq,(U_coord_Coord_Play _).1,CHK_,Nat.reduceBEq,re0,re1,hk',a0,hlk]
    have hb:(H1 ++ [HObj.cells (dx0 ⟨⟨0,0⟩,r.parts,[],true,r.yes,r.stamp,[]⟩)])[H1.length]? = some (.cells (dx0 ⟨⟨0,0⟩,r.parts,[],true,r.yes,r.stamp,[]⟩)):=by simp
    have l0:=hlt a0
    have lm:=hlt t1.atm
    refine h2 h hm H1.length r.id ⟨⟨0,0⟩,r.parts,[],true,r.yes,r.stamp,[]⟩ _ _ _ ⟨happ a0,happ t1.atm,t1.ne⟩ hb (by omega) (by omega) ⟨hne,hl,.nil,.nil⟩ rfl rfl fun H' k t' => ?_
    simp only [lstN,C_coord_Coord_Play,A_,simprocAttr,ne_eq,(U_coord_Coord_Play _).1,CHK_,Nat.reduceBEq,re0,re1,hk',a0,hlk]
    refine hok H' _ _ _ ?_ hlen ?_ ?_ t'
    · refine k0.trans ⟨Nat.le_trans (by simp) k.1,fun i hi e=>by
        rw [k.2 i (by simp; omega) (by simp only [List.mem_cons,List.not_mem_nil,or_false,not_or] at e ⊢; exact ⟨by omega,e⟩)]
        exact List.getElem?_append_left hi⟩
    · simp; omega
    · simp; omega
  · have hk':(r.kind=4)=False:=eq_false hk
    simp only [C_coord_Coord_Play,A_,simprocAttr,ne_eq,(U_coord_Coord_Play _).1,hk']
    exact hbad (fun q=>hk q.2) G
end Go.AM
namespace Go.AM
open Go
set_option maxRecDepth 20000
def AwCS (C:CallW) (f:FuncId):Prop:=∀S H (K:AV→St→Prop),(∀H',K (.bool true) ⟨S,H'⟩)→C (.fn f) [] ⟨S,H⟩ K
theorem lst_wk {a b c:AV} {l:List Int}:WkF [a,b,c,.list .full 1 (l.map pI)] [a,b,c,lstN l] := .same (.same (.same (.wk (show WkL [.list .full 1 (l.map pI)] [lstN l] from .full .nil) .nil)))
theorem lst_wk2 {a:AV} {l:List Int}:WkF [a,.list .full 1 (l.map pI)] [a,lstN l] := .same (.wk (show WkL [.list .full 1 (l.map pI)] [lstN l] from .full .nil) .nil)
def xA0:Dx:=⟨⟨0,0⟩,[0,1],[],false,false,⟨0,0⟩,[]⟩
def xA1:Dx:=⟨⟨0,0⟩,[0,1],[0],false,false,⟨5,0⟩,[]⟩
def xA2:Dx:=⟨⟨0,0⟩,[0,1],[0,1],true,true,⟨7,1⟩,[]⟩
set_option maxHeartbeats 8000000 in
theorem law18_awake_spec {C:CallW} (hC:LeC C C) (hW:WkC C) (P:Program) {c:Nat→FuncId} (h0:NewCS C (c 0)) (h1:∀t:Int,FnS C (c 1) [.s (.int .i64 t)] (.agg (stc ⟨t,0⟩))) (h2:BegS C (c 2)) (h3:VoteS C (c 3)) (h4:DecS C (c 4)) (h5:OwesS C (c 5)) (h6:SameIS C (c 6)) (h7:OpenS C (c 7)) (h8:SameIS C (c 8)):∀S H (K:AV→St→Prop),(∀H',K (.bool true) ⟨S,H'⟩)→runL C P (C_hourglasslaw18_awake c) [] ⟨S,H⟩ K:=by
  intro S H K hK
  have v1:voteD xA0 0 true ⟨5,0⟩=(0,xA1):=rfl
  have v2:voteD xA1 1 true ⟨7,1⟩=(0,xA2):=rfl
  simp only [C_hourglasslaw18_awake,A_,simprocAttr,ne_eq,(U_hourglasslaw18_awake _).1]
  refine h0 _ _ _ ?_
  have t0:=newC (H:=H)
  generalize H ++ [HObj.map [] 0,.cells [.map H.length]]=H0 at t0 ⊢
  generalize H.length + 1=h at t0 ⊢
  generalize H.length=hm at t0
  simp only [C_hourglasslaw18_awake,A_,simprocAttr,ne_eq,(U_hourglasslaw18_awake _).1,re0,re1]
  refine h1 0 _ _ _ ?_
  simp only [stc,C_hourglasslaw18_awake,A_,simprocAttr,ne_eq,(U_hourglasslaw18_awake _).1,re0,re1,bslL,fillE,List.isEmpty_cons,List.isEmpty_nil]
  refine hW _ _ _ _ _ (lst_wk (l:=[0,1])) (h2 h hm 1 ⟨0,0⟩ [0,1] _ _ _ t0 (by decide) (fun q=>absurd q (by decide)) fun _ H1 b hv ha _ _ _ _ t => ?_)
  have t:CoX H1 h hm 1 b hv ha xA0:=t
  simp only [C_hourglasslaw18_awake,A_,simprocAttr,ne_eq,(U_hourglasslaw18_awake _).1]
  refine h1 5 _ _ _ ?_
  simp only [stc,C_hourglasslaw18_awake,A_,simprocAttr,ne_eq,(U_hourglasslaw18_awake _).1]
  refine h3 h hm b hv ha 1 xA0 0 true ⟨5,0⟩ _ _ _ t fun H2 _ t => ?_
  rw [v1] at t ⊢
  have t:CoX H2 h hm 1 b hv ha xA1:=t
  simp only [C_hourglasslaw18_awake,A_,simprocAttr,ne_eq,(U_hourglasslaw18_awake _).1]
  refine h4 h hm b hv ha 1 xA1 _ _ _ t ?_
  simp only [show decD xA1=(false,false,⟨0,0⟩) from rfl,stc,C_hourglasslaw18_awake,A_,simprocAttr,ne_eq,(U_hourglasslaw18_awake _).1]
  refine h3 h hm b hv ha 1 xA1 1 true ⟨7,1⟩ _ _ _ t fun H3 _ t => ?_
  rw [v2] at t ⊢
  have t:CoX H3 h hm 1 b hv ha xA2:=t
  simp only [C_hourglasslaw18_awake,A_,simprocAttr,ne_eq,(U_hourglasslaw18_awake _).1]
  refine h4 h hm b hv ha 1 xA2 _ _ _ t ?_
  have u1:(u8 1:AV) = .s (.int .u8 1):=rfl
  simp only [show decD xA2=(true,true,⟨7,1⟩) from rfl,stc,u1,C_hourglasslaw18_awake,A_,simprocAttr,ne_eq,(U_hourglasslaw18_awake _).1]
  refine h5 h hm b hv ha 1 xA2 _ _ _ t ?_
  simp only [show owesD xA2=[0,1] from rfl,C_hourglasslaw18_awake,A_,simprocAttr,ne_eq,(U_hourglasslaw18_awake _).1,bslL,fillE,List.isEmpty_cons,List.isEmpty_nil]
  refine hW _ _ _ _ _ (lst_wk2 (l:=[0,1])) (h6 [0,1] [0,1] _ _ _ (by decide) (by decide) ?_)
  rw [decide_eq_true rfl]
  simp only [C_hourglasslaw18_awake,A_,simprocAttr,ne_eq,(U_hourglasslaw18_awake _).1]
  refine h7 h hm b hv ha 1 xA2 _ _ _ t fun G => ?_
  simp only [show openD 1 xA2=[1] from rfl,C_hourglasslaw18_awake,A_,simprocAttr,ne_eq,(U_hourglasslaw18_awake _).1,bslL,fillE,List.isEmpty_cons,List.isEmpty_nil]
  refine hW _ _ _ _ _ (lst_wk2 (l:=[1])) (h8 [1] [1] _ _ _ (by decide) (by decide) ?_)
  rw [decide_eq_true rfl]
  simp only [C_hourglasslaw18_awake,A_,simprocAttr,ne_eq,(U_hourglasslaw18_awake _).1]
  exact hK _
end Go.AM
namespace Go.AM
open Go
set_option maxRecDepth 20000
structure CAct where
  op:Int
  id:Int
  st:Stp
  parts:List Int
  part:Int
  yes:Bool
  r:Rec
structure LogI (parts:List Int) (x:Dx):Prop where
  parts:x.parts=parts
  good:goodS x.st=true
  no:x.known=true→x.yes=false→x.st=⟨0,0⟩
  un:x.known=false→x.yes=false
end Go.AM
namespace Go.AM
open Go
set_option maxRecDepth 20000
def xK0:Dx:=⟨⟨4,0⟩,[0,2],[],false,false,⟨0,0⟩,[]⟩
def xK1:Dx:=⟨⟨4,0⟩,[0,2],[2],true,false,⟨0,0⟩,[]⟩
def xK2:Dx:=⟨⟨4,0⟩,[0,2],[2],true,false,⟨0,0⟩,[0]⟩
def xK3:Dx:=⟨⟨4,0⟩,[0,2],[2],true,false,⟨0,0⟩,[0,2]⟩
def zK0:Dx:=⟨⟨0,0⟩,[0,2],[],true,false,⟨0,0⟩,[]⟩
def rK:Rec:=⟨4,1,⟨0,0⟩,⟨0,0⟩,[],false,[0,2]⟩
def rK3:Rec:=⟨3,7,⟨0,0⟩,⟨0,0⟩,[],false,[]⟩
theorem CoX.sep {H H':List HObj} {h hm b hv ha N:Nat} {id:Int} {x:Dx} {l:List Nat} (t:CoX H h hm id b hv ha x) (k:Keep H H' l) (h1:h < N∧hm < N∧b < N∧hv < N∧ha < N) (h2:∀i∈l,N≤i):CoX H' h hm id b hv ha x:=by
  refine t.keep k fun i hi hl => ?_
  have:=h2 i hl
  simp only [List.mem_cons,List.not_mem_nil,or_false] at hi
  rcases hi with rfl | rfl | rfl | rfl | rfl <;> omega
theorem CoX.sep2 {H H':List HObj} {h hm b hv ha N:Nat} {id:Int} {x:Dx} {l:List Nat} (t:CoX H h hm id b hv ha x) (k:Keep H H' l) (h1:N≤h∧N≤hm∧N≤b∧N≤hv∧N≤ha) (h2:∀i∈l,i < N):CoX H' h hm id b hv ha x:=by
  refine t.keep k fun i hi hl => ?_
  have:=h2 i hl
  simp only [List.mem_cons,List.not_mem_nil,or_false] at hi
  rcases hi with rfl | rfl | rfl | rfl | rfl <;> omega
theorem CoX.low {H:List HObj} {h hm b hv ha:Nat} {id:Int} {x:Dx} (t:CoX H h hm id b hv ha x):h < H.length∧hm < H.length∧b < H.length∧hv < H.length∧ha < H.length:=by
  obtain ⟨a0,⟨_,_,a1,_⟩,a2,⟨_,_,a3,_⟩,⟨_,_,a4,_⟩,_⟩:=t
  exact ⟨hlt a0,hlt a1,hlt a2,hlt a3,hlt a4⟩
theorem rK_wk:WkF [.agg (rcc rK),.agg [.s (.int .i64 4),.s (.int .i64 1),.s (.int .i64 0),.s (.int .u8 0),.s (.int .i64 0),.s (.int .u8 0),.s .nilS,.s (.bool false),.list .full 1 [.s (.int .i64 0),.s (.int .i64 2)]]] [.agg (rcc rK),.agg (rcc rK)] := .same (.wk (show WkL [.agg [.s (.int .i64 4),.s (.int .i64 1),.s (.int .i64 0),.s (.int .u8 0),.s (.int .i64 0),.s (.int .u8 0),.s .nilS,.s (.bool false),.list .full 1 [.s (.int .i64 0),.s (.int .i64 2)]]] [.agg (rcc rK)] from .agg (.same (.same (.same (.same (.same (.same (.nilS (by omega) (.same (.full .nil))))))))) (rcc_cell (r:=rK)) .nil) .nil)
theorem rK3_wk {a:AV}:WkF [a,.agg [.s (.int .i64 3),.s (.int .i64 7),.s (.int .i64 0),.s (.int .u8 0),.s (.int .i64 0),.s (.int .u8 0),.s .nilS,.s (.bool false),.s .nilS]] [a,.agg (rcc rK3)] := .same (.wk (show WkL [.agg [.s (.int .i64 3),.s (.int .i64 7),.s (.int .i64 0),.s (.int .u8 0),.s (.int .i64 0),.s (.int .u8 0),.s .nilS,.s (.bool false),.s .nilS]] [.agg (rcc rK3)] from .agg (.same (.same (.same (.same (.same (.same (.nilS (by omega) (.same (.nilS (by omega) .nil))))))))) (rcc_cell (r:=rK3)) .nil) .nil)
set_option maxHeartbeats 16000000 in
theorem CoordKnown_spec {C:CallW} (hW:WkC C) (P:Program) {c:Nat→FuncId} (h0:AwCS C (c 0)) (h1:NewCS C (c 1)) (h2:∀t:Int,FnS C (c 2) [.s (.int .i64 t)] (.agg (stc ⟨t,0⟩))) (h3:BegS C (c 3)) (h3x:BegXS C (c 3)) (h4:VoteS C (c 4)) (h5:AckS C (c 5)) (h6:DecS C (c 6)) (h7:RecXS C (c 7)) (h8:PlayES C (c 8)) (h8x:PlayXS C (c 8)) (h9:GiveS C (c 9)) (h10:SameS C (c 10)) (h11:OpenS C (c 11)) (h12:SameIS C (c 12)):∀S H (K:AV→St→Prop),(∀H',K (.bool true) ⟨S,H'⟩)→runL C P (C_hourglasslaw18_CoordKnown c) [] ⟨S,H⟩ K:=by
  intro S H K hK
  have v1:voteD xK0 0 true ⟨4,0⟩=(1,xK0):=rfl
  have v2:voteD xK0 1 true ⟨5,0⟩=(4,xK0):=rfl
  have v3:ackD xK0 0=(8,xK0):=rfl
  have v4:voteD xK0 2 false ⟨-9,0⟩=(0,xK1):=rfl
  have v5:voteD xK1 0 true ⟨9,0⟩=(0,xK1):=rfl
  have v6:decD xK1=(true,false,⟨0,0⟩):=rfl
  have v7:recD 1 xK1 1=(rK,true):=rfl
  have v8:recD 1 xK1 2=(zRec,false):=rfl
  have v9:voteD zK0 0 true ⟨9,0⟩=(0,zK0):=rfl
  have v10:ackD xK1 0=(0,xK2):=rfl
  have v11:ackD xK2 2=(0,xK3):=rfl
  have gr:goodRec rK=true:=by decide
  have ok1:okR rK:=⟨by decide,by decide⟩
  have ok3:okR rK3:=⟨by decide,by decide⟩
  simp only [C_hourglasslaw18_CoordKnown,A_,simprocAttr,ne_eq,(U_hourglasslaw18_CoordKnown _).1]
  refine h0 _ _ _ fun H1 => ?_
  simp only [C_hourglasslaw18_CoordKnown,A_,simprocAttr,ne_eq,(U_hourglasslaw18_CoordKnown _).1]
  refine h1 _ _ _ ?_
  have t0:=newC (H:=H1)
  generalize H1 ++ [HObj.map [] 0,.cells [.map H1.length]]=H0 at t0 ⊢
  generalize H1.length + 1=h at t0 ⊢
  generalize H1.length=hm at t0
  simp only [C_hourglasslaw18_CoordKnown,A_,simprocAttr,ne_eq,(U_hourglasslaw18_CoordKnown _).1]
  refine h2 0 _ _ _ ?_
  simp only [stc,C_hourglasslaw18_CoordKnown,A_,simprocAttr,ne_eq,(U_hourglasslaw18_CoordKnown _).1,bslL,fillE,List.isEmpty_cons,List.isEmpty_nil]
  refine hW _ _ _ _ _ (lst_wk (l:=[1])) (h3 h hm 0 ⟨0,0⟩ [1] _ _ _ t0 (by decide) (fun _ => ?_) (fun q=>absurd q (by decide)))
  simp only [C_hourglasslaw18_CoordKnown,A_,simprocAttr,ne_eq,(U_hourglasslaw18_CoordKnown _).1]
  refine h2 0 _ _ _ ?_
  simp only [stc,C_hourglasslaw18_CoordKnown,A_,simprocAttr,ne_eq,(U_hourglasslaw18_CoordKnown _).1,bslL,fillE,List.isEmpty_cons,List.isEmpty_nil]
  refine hW _ _ _ _ _ (lst_wk (l:=[1,0])) (h3 h hm 1 ⟨0,0⟩ [1,0] _ _ _ t0 (by decide) (fun _ => ?_) (fun q=>absurd q (by decide)))
  simp only [C_hourglasslaw18_CoordKnown,A_,simprocAttr,ne_eq,(U_hourglasslaw18_CoordKnown _).1]
  refine h2 (-1) _ _ _ ?_
  simp only [stc,C_hourglasslaw18_CoordKnown,A_,simprocAttr,ne_eq,(U_hourglasslaw18_CoordKnown _).1,bslL,fillE,List.isEmpty_cons,List.isEmpty_nil]
  refine hW _ _ _ _ _ (lst_wk (l:=[1])) (h3 h hm 1 ⟨-1,0⟩ [1] _ _ _ t0 (by decide) (fun _ => ?_) (fun q=>absurd q (by decide)))
  simp only [C_hourglasslaw18_CoordKnown,A_,simprocAttr,ne_eq,(U_hourglasslaw18_CoordKnown _).1]
  refine h2 4 _ _ _ ?_
  simp only [stc,C_hourglasslaw18_CoordKnown,A_,simprocAttr,ne_eq,(U_hourglasslaw18_CoordKnown _).1,bslL,fillE,List.isEmpty_cons,List.isEmpty_nil]
  refine hW _ _ _ _ _ (lst_wk (l:=[0,2])) (h3 h hm 1 ⟨4,0⟩ [0,2] _ _ _ t0 (by decide) (fun q=>absurd q (by decide)) fun _ H2 b hv ha _ _ _ _ t => ?_)
  have t:CoX H2 h hm 1 b hv ha xK0:=t
  simp only [C_hourglasslaw18_CoordKnown,A_,simprocAttr,ne_eq,(U_hourglasslaw18_CoordKnown _).1]
  refine h2 4 _ _ _ ?_
  simp only [stc,C_hourglasslaw18_CoordKnown,A_,simprocAttr,ne_eq,(U_hourglasslaw18_CoordKnown _).1,bslL,fillE,List.isEmpty_cons,List.isEmpty_nil]
  refine hW _ _ _ _ _ (lst_wk (l:=[0])) (h3x h hm b hv ha 1 xK0 ⟨4,0⟩ [0] _ _ _ t (by decide) (by decide) ?_)
  simp only [C_hourglasslaw18_CoordKnown,A_,simprocAttr,ne_eq,(U_hourglasslaw18_CoordKnown _).1]
  refine h2 4 _ _ _ ?_
  simp only [stc,C_hourglasslaw18_CoordKnown,A_,simprocAttr,ne_eq,(U_hourglasslaw18_CoordKnown _).1]
  refine h4 h hm b hv ha 1 xK0 0 true ⟨4,0⟩ _ _ _ t fun H3 _ t => ?_
  rw [v1] at t ⊢
  have t:CoX H3 h hm 1 b hv ha xK0:=t
  simp only [C_hourglasslaw18_CoordKnown,A_,simprocAttr,ne_eq,(U_hourglasslaw18_CoordKnown _).1]
  refine h2 5 _ _ _ ?_
  simp only [stc,C_hourglasslaw18_CoordKnown,A_,simprocAttr,ne_eq,(U_hourglasslaw18_CoordKnown _).1]
  refine h4 h hm b hv ha 1 xK0 1 true ⟨5,0⟩ _ _ _ t fun H3 _ t => ?_
  rw [v2] at t ⊢
  have t:CoX H3 h hm 1 b hv ha xK0:=t
  simp only [C_hourglasslaw18_CoordKnown,A_,simprocAttr,ne_eq,(U_hourglasslaw18_CoordKnown _).1]
  refine h5 h hm b hv ha 1 xK0 0 _ _ _ t fun H3 _ t => ?_
  rw [v3] at t ⊢
  have t:CoX H3 h hm 1 b hv ha xK0:=t
  simp only [C_hourglasslaw18_CoordKnown,A_,simprocAttr,ne_eq,(U_hourglasslaw18_CoordKnown _).1]
  refine h2 (-9) _ _ _ ?_
  simp only [stc,C_hourglasslaw18_CoordKnown,A_,simprocAttr,ne_eq,(U_hourglasslaw18_CoordKnown _).1]
  refine h4 h hm b hv ha 1 xK0 2 false ⟨-9,0⟩ _ _ _ t fun H3 _ t => ?_
  rw [v4] at t ⊢
  have t:CoX H3 h hm 1 b hv ha xK1:=t
  simp only [C_hourglasslaw18_CoordKnown,A_,simprocAttr,ne_eq,(U_hourglasslaw18_CoordKnown _).1]
  refine h2 9 _ _ _ ?_
  simp only [stc,C_hourglasslaw18_CoordKnown,A_,simprocAttr,ne_eq,(U_hourglasslaw18_CoordKnown _).1]
  refine h4 h hm b hv ha 1 xK1 0 true ⟨9,0⟩ _ _ _ t fun H3 _ t => ?_
  rw [v5] at t ⊢
  have t:CoX H3 h hm 1 b hv ha xK1:=t
  simp only [C_hourglasslaw18_CoordKnown,A_,simprocAttr,ne_eq,(U_hourglasslaw18_CoordKnown _).1]
  refine h6 h hm b hv ha 1 xK1 _ _ _ t ?_
  rw [v6]
  simp only [stc,C_hourglasslaw18_CoordKnown,A_,simprocAttr,ne_eq,(U_hourglasslaw18_CoordKnown _).1]
  refine h7 h hm b hv ha 1 xK1 1 _ _ _ t ?_
  rw [v7]
  simp only [rcc,C_hourglasslaw18_CoordKnown,A_,simprocAttr,ne_eq,(U_hourglasslaw18_CoordKnown _).1]
  refine h7 h hm b hv ha 1 xK1 2 _ _ _ t ?_
  rw [v8]
  simp only [rcc,C_hourglasslaw18_CoordKnown,A_,simprocAttr,ne_eq,(U_hourglasslaw18_CoordKnown _).1]
  refine h8x h hm b hv ha 1 xK1 rK _ _ _ t ok1 (fun q=>absurd ⟨gr,rfl⟩ q) (fun _=>⟨rfl,fun G => ?_⟩)
  have t:=t.app (G:=G)
  generalize H3 ++ G=H4 at t ⊢
  simp only [C_hourglasslaw18_CoordKnown,A_,simprocAttr,ne_eq,(U_hourglasslaw18_CoordKnown _).1]
  refine h1 _ _ _ ?_
  have low:=t.low
  obtain ⟨N,hN⟩:∃N,H4.length=N:=⟨_,rfl⟩
  have u0:=newC (H:=H4)
  have t:=t.app (G:=[HObj.map [] 0,.cells [.map H4.length]])
  have hH5:N≤(H4 ++ [HObj.map [] 0,.cells [.map H4.length]]).length:=by simp; omega
  rw [hN] at low
  generalize H4 ++ [HObj.map [] 0,.cells [.map H4.length]]=H5 at u0 t hH5 ⊢
  have lh':N≤H4.length + 1:=by omega
  have lhm':N≤H4.length:=by omega
  generalize H4.length + 1=h' at u0 lh' ⊢
  generalize H4.length=hm' at u0 lhm'
  simp only [C_hourglasslaw18_CoordKnown,A_,simprocAttr,ne_eq,(U_hourglasslaw18_CoordKnown _).1]
  refine h8 h' hm' rK _ _ _ u0 ok1 (by decide) (fun q=>absurd ⟨gr,rfl⟩ q) (fun _ H6 b' hv' ha' k lb lv la u => ?_)
  have u:CoX H6 h' hm' 1 b' hv' ha' zK0:=u
  have t:=t.sep k low (by simp [lhm'])
  have hi':N≤h'∧N≤hm'∧N≤b'∧N≤hv'∧N≤ha':=by omega
  have lo:∀i∈[b,hv,ha],i < N:=by
    intro i hi
    simp only [List.mem_cons,List.not_mem_nil,or_false] at hi
    omega
  have up:∀i∈[b',hv',ha'],N≤i:=by
    intro i hi
    simp only [List.mem_cons,List.not_mem_nil,or_false] at hi
    omega
  simp only [C_hourglasslaw18_CoordKnown,A_,simprocAttr,ne_eq,(U_hourglasslaw18_CoordKnown _).1]
  refine h9 h' hm' b' hv' ha' 1 zK0 _ _ _ u fun H7 k u => ?_
  have u:CoX H7 h' hm' 1 b' hv' ha' zK0:=u
  have t:=t.sep k low up
  simp only [zK0,C_hourglasslaw18_CoordKnown,A_,simprocAttr,ne_eq,(U_hourglasslaw18_CoordKnown _).1]
  refine h2 9 _ _ _ ?_
  simp only [stc,C_hourglasslaw18_CoordKnown,A_,simprocAttr,ne_eq,(U_hourglasslaw18_CoordKnown _).1]
  refine h4 h' hm' b' hv' ha' 1 zK0 0 true ⟨9,0⟩ _ _ _ u fun H8 k u => ?_
  rw [v9] at u ⊢
  have u:CoX H8 h' hm' 1 b' hv' ha' zK0:=u
  have t:=t.sep k low up
  simp only [C_hourglasslaw18_CoordKnown,A_,simprocAttr,ne_eq,(U_hourglasslaw18_CoordKnown _).1]
  refine h5 h hm b hv ha 1 xK1 0 _ _ _ t fun H9 k t => ?_
  rw [v10] at t ⊢
  have t:CoX H9 h hm 1 b hv ha xK2:=t
  have u:=u.sep2 k hi' lo
  simp only [C_hourglasslaw18_CoordKnown,A_,simprocAttr,ne_eq,(U_hourglasslaw18_CoordKnown _).1]
  refine h5 h hm b hv ha 1 xK2 2 _ _ _ t fun H10 k t => ?_
  rw [v11] at t ⊢
  have t:CoX H10 h hm 1 b hv ha xK3:=t
  have u:=u.sep2 k hi' lo
  have u80:(u8 0:AV) = .s (.int .u8 0):=rfl
  simp only [u80,C_hourglasslaw18_CoordKnown,A_,simprocAttr,ne_eq,(U_hourglasslaw18_CoordKnown _).1,bslL,fillE,List.isEmpty_cons,List.isEmpty_nil]
  refine hW _ _ _ _ _ rK_wk (h10 rK rK _ _ _ ok1 ok1 ?_)
  rw [decide_eq_true rfl]
  simp only [C_hourglasslaw18_CoordKnown,A_,simprocAttr,ne_eq,(U_hourglasslaw18_CoordKnown _).1]
  refine h11 h hm b hv ha 1 xK3 _ _ _ t fun G => ?_
  have t:=t.app (G:=G)
  have u:=u.app (G:=G)
  generalize H10 ++ G=H11 at t u ⊢
  simp only [show openD 1 xK3=[] from rfl,lstN,List.map_nil,List.length_nil,C_hourglasslaw18_CoordKnown,A_,simprocAttr,ne_eq,(U_hourglasslaw18_CoordKnown _).1]
  refine h11 h' hm' b' hv' ha' 1 zK0 _ _ _ u fun G => ?_
  have u:=u.app (G:=G)
  generalize H11 ++ G=H12 at u ⊢
  simp only [show openD 1 zK0=[1] from rfl,C_hourglasslaw18_CoordKnown,A_,simprocAttr,ne_eq,(U_hourglasslaw18_CoordKnown _).1,bslL,fillE,List.isEmpty_cons,List.isEmpty_nil]
  refine hW _ _ _ _ _ (lst_wk2 (l:=[1])) (h12 [1] [1] _ _ _ (by decide) (by decide) ?_)
  rw [decide_eq_true rfl]
  simp only [C_hourglasslaw18_CoordKnown,A_,simprocAttr,ne_eq,(U_hourglasslaw18_CoordKnown _).1]
  refine hW _ _ _ _ _ rK3_wk (h8x h' hm' b' hv' ha' 1 zK0 rK3 _ _ _ u ok3 (fun _ G => ?_) (fun q=>absurd q.2 (by decide)))
  simp only [C_hourglasslaw18_CoordKnown,A_,simprocAttr,ne_eq,(U_hourglasslaw18_CoordKnown _).1]
  exact hK _
end Go.AM
namespace Go.AM
open Go
set_option maxRecDepth 20000
end Go.AM
namespace Go.AM
open Go
set_option maxRecDepth 20000
theorem law13_at_spec {C:CallW} (P:Program):∀(t:Int) S H (K:AV→St→Prop),K (.agg (stc ⟨t,0⟩)) ⟨S,H⟩→runL C P C_hourglasslaw13_at [.s (.int .i64 t)] ⟨S,H⟩ K:=by
  intro t S H K hK
  simp only [C_hourglasslaw13_at,A_,simprocAttr,ne_eq,U_hourglasslaw13_at.1]
  exact hK
end Go.AM
