import Derived.Test.YtadcnggbhkpcbaaM12
import Derived.Test.YtadcnggbhkpcbaaM10
import Derived.Test.YtadcnggbhkpcbaaM7
import Derived.OpenShut
import Derived.Carry
import Derived.ChangeOld
set_option linter.unusedSimpArgs false
set_option linter.unusedVariables false
namespace Go.AM
open Go
open AV renaming undef → uu
set_option maxRecDepth 20000
def recD (id:Int) (x:Dx) (i:Int):Rec×Bool:=if id=i∧x.known=true then (⟨4,i,⟨0,0⟩,x.st,[],x.yes,x.parts⟩,true) else (zRec,false)
def RecXS (C:CallW) (f:FuncId):Prop:=∀(h hm b hv ha:Nat) (id:Int) (x:Dx) (i:Int) S H (K:AV→St→Prop),CoX H h hm id b hv ha x→K (.tup [.agg (rcc (recD id x i).1),.s (.bool (recD id x i).2)]) ⟨S,H⟩→C (.fn f) [.ptr (.heap h) 0,.s (.int .i64 i)] ⟨S,H⟩ K
set_option maxHeartbeats 8000000 in
theorem coord_Record_spec {C:CallW} (P:Program) {c:Nat→FuncId} (h0:CloneIH C (c 0)):∀(h hm b hv ha:Nat) (id:Int) (x:Dx) (i:Int) S H (K:AV→St→Prop),CoX H h hm id b hv ha x→K (.tup [.agg (rcc (recD id x i).1),.s (.bool (recD id x i).2)]) ⟨S,H⟩→runL C P (C_coord_Coord_Record c) [.ptr (.heap h) 0,.s (.int .i64 i)] ⟨S,H⟩ (WkK K):=by
  intro h hm b hv ha id x i S H K t hK
  have a0:=t.at0
  have ab:=t.atb
  simp only [dxc] at ab
  have rs:=fun S'=>rd2h (S:=S') (off:=6) (s:=x.st) ab rfl
  have hlk:=fun S'=>t.look (S:=S') i
  unfold recD at hK
  have wz:WkL [(AV.tup [.agg [.s (.int .i64 0),.s (.int .i64 0),.s (.int .i64 0),.s (.int .u8 0),.s (.int .i64 0),.s (.int .u8 0),.s .nilS,.s (.bool false),.s .nilS],.s (.bool false)]).sh] [.tup [.agg (rcc zRec),.s (.bool false)]] := .tup (.agg (.same (.same (.same (.same (.same (.same (.nilS (by omega) (.same (.nilS (by omega) .nil))))))))) rcc_cell (.same .nil)) .nil
  by_cases hid:id=i
  · simp only [hid,if_true] at hlk
    by_cases hkn:x.known=true
    · rw [if_pos ⟨hid,hkn⟩] at hK
      simp only [C_coord_Coord_Record,A_,simprocAttr,ne_eq,(U_coord_Coord_Record _).1,CHK_,Nat.reduceBEq,re0,re1,a0,hlk,ab,hkn,rs]
      refine h0 x.parts _ _ _ t.ok.ne t.ok.len ?_
      simp only [lstN,C_coord_Coord_Record,A_,simprocAttr,ne_eq,(U_coord_Coord_Record _).1,CHK_,Nat.reduceBEq,re0,re1,a0,hlk,ab,hkn,rs]
      refine ⟨_,.inr ?_,hK⟩
      exact .tup (.agg (.same (.same (.same (.same (.same (.same (.nilS (by omega) (.same (.same .nil))))))))) rcc_cell (.same .nil)) .nil
    · rw [if_neg (fun q=>hkn q.2)] at hK
      have hkn':x.known=false:=by simpa using hkn
      simp only [C_coord_Coord_Record,A_,simprocAttr,ne_eq,(U_coord_Coord_Record _).1,CHK_,Nat.reduceBEq,re0,re1,a0,hlk,ab,hkn',rs]
      exact ⟨_,.inr wz,hK⟩
  · rw [if_neg (fun q=>hid q.1)] at hK
    simp only [hid,if_false] at hlk
    simp only [C_coord_Coord_Record,A_,simprocAttr,ne_eq,(U_coord_Coord_Record _).1,CHK_,Nat.reduceBEq,re0,re1,a0,hlk]
    exact ⟨_,.inr wz,hK⟩
def Owes1S (C:CallW) (f:FuncId):Prop:=∀(h hm b hv ha:Nat) (id:Int) (x:Dx) (v:Int) (r:Nat) S H (K:AV→St→Prop),CoX H h hm id b hv ha x→S[r]? = some [.ptr (.heap b) 0]→K (.bool (decide (v∈x.acked))) ⟨S,H⟩→C (.fn f) [.s (.int .i64 v),.ptr (.stk r) 0] ⟨S,H⟩ K
theorem coord_Owes1_spec {C:CallW} (P:Program):∀(h hm b hv ha:Nat) (id:Int) (x:Dx) (v:Int) (r:Nat) S H (K:AV→St→Prop),CoX H h hm id b hv ha x→S[r]? = some [.ptr (.heap b) 0]→K (.bool (decide (v∈x.acked))) ⟨S,H⟩→runL C P C_coord_Coord_Owes_1 [.s (.int .i64 v),.ptr (.stk r) 0] ⟨S,H⟩ K:=by
  intro h hm b hv ha id x v r S H K t hr hK
  have ab:=t.atb
  simp only [dxc] at ab
  have hrd:load1L false (.ptr (.stk r) 0) ⟨S,H⟩=some (.ptr (.heap b) 0,⟨S,H⟩):=by
    simp only [load1L,boxOf_stk,hr,Option.bind_some]; rfl
  have lka:=fun S'=>look_b (S:=S') t.ata v
  simp only [C_coord_Coord_Owes_1,A_,simprocAttr,ne_eq,U_coord_Coord_Owes_1.1,hrd,ab,lka]
  exact hK
def owesD (x:Dx):List Int:=x.parts.filter fun v => !decide (v∈x.acked)
def OwesS (C:CallW) (f:FuncId):Prop:=∀(h hm b hv ha:Nat) (id:Int) (x:Dx) S H (K:AV→St→Prop),CoX H h hm id b hv ha x→K (lstN (owesD x)) ⟨S,H⟩→C (.fn f) [.ptr (.heap h) 0,.s (.int .i64 id)] ⟨S,H⟩ K
set_option maxHeartbeats 4000000 in
theorem coord_Owes_spec {C:CallW} (P:Program) {c:Nat→FuncId} (h0:CloneIS C (c 0)) (h1:Owes1S C (c 1)) (h2:DelFS C (c 2)):∀(h hm b hv ha:Nat) (id:Int) (x:Dx) S H (K:AV→St→Prop),CoX H h hm id b hv ha x→K (lstN (owesD x)) ⟨S,H⟩→runL C P (C_coord_Coord_Owes c) [.ptr (.heap h) 0,.s (.int .i64 id)] ⟨S,H⟩ K:=by
  intro h hm b hv ha id x S H K t hK
  have a0:=t.at0
  have ab:=t.atb
  simp only [dxc] at ab
  have hlk:=fun S'=>t.look (S:=S') id
  simp only [if_true] at hlk
  have st:storeL 1 (.ptr (.stk S.length) 0) (.ptr (.heap b) 0) ⟨S ++ [[.s .nilP]],H⟩=some ⟨S ++ [[.ptr (.heap b) 0]],H⟩:=by
    simp [storeL,AV.cells,AV.fit,writeCells,boxOf,mayHold,AV.under.go,AV.under,splice,setBox]
  simp only [C_coord_Coord_Owes,A_,simprocAttr,ne_eq,(U_coord_Coord_Owes _).1,re0,re1,a0,hlk,ab,st]
  refine h0 x.parts _ _ _ t.ok.ne t.ok.len ?_
  simp only [C_coord_Coord_Owes,A_,simprocAttr,ne_eq,(U_coord_Coord_Owes _).1,re0,re1,a0,hlk,ab]
  refine h2 x.parts (c 1) S.length (fun v=>decide (v∈x.acked)) _ _ _ t.ok.ne t.ok.len (by simp) (fun v T K hK => ?_) ?_
  · refine h1 h hm b hv ha id x v S.length _ _ _ t ?_ hK
    simp
  · simp only [lstN,C_coord_Coord_Owes,A_,simprocAttr,ne_eq,(U_coord_Coord_Owes _).1,re0,re1,a0,hlk,ab]
    exact hK
def openD (id:Int) (x:Dx):List Int:=if x.known=false∨owesD x≠[] then [id] else []
def OpenS (C:CallW) (f:FuncId):Prop:=∀(h hm b hv ha:Nat) (id:Int) (x:Dx) S H (K:AV→St→Prop),CoX H h hm id b hv ha x→(∀G,K (lstN (openD id x)) ⟨S,H ++ G⟩)→C (.fn f) [.ptr (.heap h) 0] ⟨S,H⟩ K
set_option maxHeartbeats 8000000 in
theorem coord_Open_spec {C:CallW} (hC:LeC C C) (P:Program) {c:Nat→FuncId} {g:FuncId} (h0:KeysS C (c 0) g) (h1:SortedS C (c 1) g) (h2:OwesS C (c 2)):∀(h hm b hv ha:Nat) (id:Int) (x:Dx) S H (K:AV→St→Prop),CoX H h hm id b hv ha x→(∀G,K (lstN (openD id x)) ⟨S,H ++ G⟩)→runL C P (C_coord_Coord_Open c) [.ptr (.heap h) 0] ⟨S,H⟩ (WkK K):=by
  intro h hm b hv ha' id x S H K t hK
  have a0:=t.at0
  obtain ⟨es,cc,am,g1⟩:=t.atm
  have hes:es.length=1:=by have:=congrArg List.length g1.rel; simpa [RelM] using this
  have hek:∀e∈es,e.key=iA id:=by
    intro e he
    have hr:=g1.rel
    unfold RelM at hr
    have hm2:(e.key,e.val)∈es.map (fun e=>(e.key,e.val)):=List.mem_map.2 ⟨e,he,rfl⟩
    rw [hr] at hm2
    have:=List.mem_singleton.1 hm2
    exact (Prod.mk.inj this).1
  simp only [C_coord_Coord_Open,A_,simprocAttr,ne_eq,(U_coord_Coord_Open _).1,a0]
  refine h0 hm _ _ _ ?_
  simp only [C_coord_Coord_Open,A_,simprocAttr,ne_eq,(U_coord_Coord_Open _).1]
  refine h1 H.length hm cc es (fun _=>id) _ _ _ ⟨by simp,happ am,g1.nd,g1.lt,hek,by omega⟩ fun ids G hp hs => ?_
  have hids:ids=[id]:=by
    have:es.map (fun _=>id)=[id]:=by
      match es,hes with
      | [e],_=>rfl
    rw [this] at hp
    exact List.perm_singleton.1 hp
  subst hids
  rw [List.append_assoc]
  generalize [HObj.cells [AV.map hm]] ++ G=G1
  have t1:=t.app (G:=G1)
  have a1:=t1.at0
  have ab:=t1.atb
  simp only [dxc] at ab
  have hlk:=fun S'=>t1.look (S:=S') id
  simp only [if_true] at hlk
  have hK1:=hK G1
  generalize H ++ G1=H1 at t1 a1 ab hlk hK1 ⊢
  clear hK
  have x1:∀k:IntKind,indexAddrL (.sl 1) (.list .sh 1 [iA id]) (.s (.int k 0))=some (.rop [.s (.int .i64 id)]):=fun k=>rfl
  simp only [lstZ,List.map_cons,List.map_nil,C_coord_Coord_Open,A_,simprocAttr,ne_eq,(U_coord_Coord_Open _).1]
  refine loop_rule hC (α:=Bool) (fun a=>if a then 0 else 1) (fun a=>[.ptr (.heap h) 0,uu,uu,if a then slG 1 ((openD id x).map iA) else .s .nilS,uu,uu,uu,uu,uu,uu,uu,.list .sh 1 [iA id],.s (.int .i64 1),.s (.int .i64 (if a then 1 else 0)),uu,uu,uu,uu,uu,uu,uu,uu,uu,uu,uu,uu,uu,uu,uu,uu,uu,uu,uu,uu,uu,uu,uu,uu,uu,uu]) (fun _=>S) (fun a=>H1) (fun a=>True) false trivial (by simp [keep,zm]) (by simp) rfl (fun a _=>by cases a <;> simp [AV.under,AV.under.go,slG_under]) ?_
  rintro (_ | _) _ ih
  · simp only [if_false,Bool.false_eq_true]
    have ha:∀(e:ET) (σ:St),e.c=1→e.bytes=8→appendL e false (.s .nilS) (.list .full 1 [.s (.int .i64 id)]) σ=some (.list .uniq 1 [iA id],σ):=fun e σ h1 h2=>app_slZ (l:=[]) h1 h2 (by simp)
    by_cases hkn:x.known=true
    · simp only [C_coord_Coord_Open,A_,simprocAttr,ne_eq,(U_coord_Coord_Open _).1,x1,a1,hlk,ab,hkn]
      refine h2 h hm b hv ha' id x _ _ _ t1 ?_
      by_cases ho:owesD x=[]
      · have hd:openD id x=[]:=by unfold openD; rw [if_neg (by rw [hkn,ho]; simp)]
        simp only [lstN,ho,C_coord_Coord_Open,A_,simprocAttr,ne_eq,(U_coord_Coord_Open _).1,x1,a1,hlk,ab,hkn]
        exact ih true _ _ _ (by decide) trivial (by rw [hd]; simp [keep,zm,slG]) (by simp) rfl
      · have hd:openD id x=[id]:=by unfold openD; rw [if_pos (.inr ho)]
        have hlen:((0:Int) < ((owesD x).length:Int))=True:=eq_true (by have:=List.length_pos_iff.2 ho; omega)
        simp only [lstN,C_coord_Coord_Open,A_,simprocAttr,ne_eq,(U_coord_Coord_Open _).1,x1,a1,hlk,ab,hkn,hlen,ha]
        exact ih true _ _ _ (by decide) trivial (by rw [hd]; simp [keep,zm,slG]) (by simp) rfl
    · have hkn':x.known=false:=by simpa using hkn
      have hd:openD id x=[id]:=by unfold openD; rw [if_pos (.inl hkn')]
      simp only [C_coord_Coord_Open,A_,simprocAttr,ne_eq,(U_coord_Coord_Open _).1,x1,a1,hlk,ab,hkn',ha]
      exact ih true _ _ _ (by decide) trivial (by rw [hd]; simp [keep,zm,slG]) (by simp) rfl
  · simp only [if_true]
    simp only [C_coord_Coord_Open,A_,simprocAttr,ne_eq,(U_coord_Coord_Open _).1]
    refine ⟨_,.inr ?_,hK1⟩
    by_cases e:openD id x=[]
    · rw [e]; exact .nilS (by omega) .nil
    · unfold slG
      rw [if_neg (by simpa using e)]
      exact .same .nil
def PlayES (C:CallW) (f:FuncId):Prop:=∀(h hm:Nat) (r:Rec) S H (K:AV→St→Prop),CoE H h hm→okR r→r.parts.length≤1000000→(¬(goodRec r=true∧r.kind=4)→∀G,K (.i 3) ⟨S,H ++ G⟩)→(goodRec r=true∧r.kind=4→∀H' b hv ha,Keep H H' [hm]→H.length≤b→H.length≤hv→H.length≤ha→CoX H' h hm r.id b hv ha ⟨⟨0,0⟩,r.parts,[],true,r.yes,r.stamp,[]⟩→K (.i 0) ⟨S,H'⟩)→C (.fn f) [.ptr (.heap h) 0,.agg (rcc r)] ⟨S,H⟩ K
def PlayXS (C:CallW) (f:FuncId):Prop:=∀(h hm b hv ha:Nat) (id:Int) (x:Dx) (r:Rec) S H (K:AV→St→Prop),CoX H h hm id b hv ha x→okR r→(¬(goodRec r=true∧r.kind=4)→∀G,K (.i 3) ⟨S,H ++ G⟩)→(goodRec r=true∧r.kind=4→r.id=id∧∀G,K (.i 5) ⟨S,H ++ G⟩)→C (.fn f) [.ptr (.heap h) 0,.agg (rcc r)] ⟨S,H⟩ K
theorem goodRec_parts {r:Rec} (h:goodRec r=true) (hk:r.kind=4):goodParts r.parts=true:=by
  unfold goodRec at h
  split at h
  · cases h
  simp only [hk,show ((4:Int)=1)=False from by simp,show ((4:Int)=2)=False from by simp,show ((4:Int)=3)=False from by simp,if_true,if_false] at h
  simp only [Bool.and_eq_true] at h
  exact h.2
set_option maxHeartbeats 8000000 in
theorem coord_PlayX_spec {C:CallW} (P:Program) {c:Nat→FuncId} (h0:GoodRS C (c 0)):∀(h hm b hv ha:Nat) (id:Int) (x:Dx) (r:Rec) S H (K:AV→St→Prop),CoX H h hm id b hv ha x→okR r→(¬(goodRec r=true∧r.kind=4)→∀G,K (.i 3) ⟨S,H ++ G⟩)→(goodRec r=true∧r.kind=4→r.id=id∧∀G,K (.i 5) ⟨S,H ++ G⟩)→runL C P (C_coord_Coord_Play c) [.ptr (.heap h) 0,.agg (rcc r)] ⟨S,H⟩ K:=by
  intro h hm b hv ha id x r S H K t hr hbad hgood
  simp only [rcc,C_coord_Coord_Play,A_,simprocAttr,ne_eq,(U_coord_Coord_Play _).1]
  refine h0 r _ _ _ hr fun G => ?_
  cases hg:goodRec r with
  | false =>
    simp only [C_coord_Coord_Play,A_,simprocAttr,ne_eq,(U_coord_Coord_Play _).1]
    exact hbad (fun q=>by rw [hg] at q; cases q.1) G
  | true =>
  by_cases hk:r.kind=4
  · obtain ⟨e,hK⟩:=hgood ⟨hg,hk⟩
    have t1:=t.app (G:=G)
    have a0:=t1.at0
    have hlk:=fun S'=>t1.look (S:=S') id
    simp only [if_true] at hlk
    have hk':(r.kind=4)=True:=eq_true hk
    simp only [C_coord_Coord_Play,A_,simprocAttr,ne_eq,(U_coord_Coord_Play _).1,CHK_,Nat.reduceBEq,re0,re1,hk',a0,e,hlk]
    exact hK G
  · have hk':(r.kind=4)=False:=eq_false hk
    simp only [C_coord_Coord_Play,A_,simprocAttr,ne_eq,(U_coord_Coord_Play _).1,hk']
    exact hbad (fun q=>hk q.2) G
set_option maxHeartbeats 8000000 in
theorem coord_PlayE_spec {C:CallW} (P:Program) {c:Nat→FuncId} (h0:GoodRS C (c 0)) (h1:CloneIH C (c 1)) (h2:AddCS C (c 2)):∀(h hm:Nat) (r:Rec) S H (K:AV→St→Prop),CoE H h hm→okR r→r.parts.length≤1000000→(¬(goodRec r=true∧r.kind=4)→∀G,K (.i 3) ⟨S,H ++ G⟩)→(goodRec r=true∧r.kind=4→∀H' b hv ha,Keep H H' [hm]→H.length≤b→H.length≤hv→H.length≤ha→CoX H' h hm r.id b hv ha ⟨⟨0,0⟩,r.parts,[],true,r.yes,r.stamp,[]⟩→K (.i 0) ⟨S,H'⟩)→runL C P (C_coord_Coord_Play c) [.ptr (.heap h) 0,.agg (rcc r)] ⟨S,H⟩ K:=by
  intro h hm r S H K t hr hl hbad hgood
  simp only [rcc,C_coord_Coord_Play,A_,simprocAttr,ne_eq,(U_coord_Coord_Play _).1]
  refine h0 r _ _ _ hr fun G => ?_
  cases hg:goodRec r with
  | false =>
    simp only [C_coord_Coord_Play,A_,simprocAttr,ne_eq,(U_coord_Coord_Play _).1]
    exact hbad (fun q=>by rw [hg] at q; cases q.1) G
  | true =>
  by_cases hk:r.kind=4
  · have hok:=hgood ⟨hg,hk⟩
    have hne:=goodParts_ne (goodRec_parts hg hk)
    have k0:Keep H (H ++ G) [hm] := .app
    have t1:CoE (H ++ G) h hm:=⟨happ t.at0,happ t.atm,t.ne⟩
    have hlen:H.length≤(H ++ G).length:=by simp
    generalize H ++ G=H1 at k0 t1 hlen ⊢
    have a0:=t1.at0
    have hlk:=fun S'=>t1.look (S:=S') r.id
    have hk':(r.kind=4)=True:=eq_true hk
    simp only [C_coord_Coord_Play,A_,simprocAttr,ne_eq,(U_coord_Coord_Play _).1,CHK_,Nat.reduceBEq,re0,re1,hk',a0,hlk]
    refine h1 r.parts _ _ _ hne hl ?_
    simp only [lstN,C_coord_Coord_Play,A_,simprocAttr,ne_eq,(U_coord_Coord_Play _).1,CHK_,Nat.reduceBEq,re0,re1,hk',a0,hlk]
    have hb:(H1 ++ [HObj.cells (dx0 ⟨⟨0,0⟩,r.parts,[],true,r.yes,r.stamp,[]⟩)])[H1.length]? = some (.cells (dx0 ⟨⟨0,0⟩,r.parts,[],true,r.yes,r.stamp,[]⟩)):=by simp
    have l0:=hlt a0
    have lm:=hlt t1.atm
    refine h2 h hm H1.length r.id ⟨⟨0,0⟩,r.parts,[],true,r.yes,r.stamp,[]⟩ _ _ _ ⟨happ a0,happ t1.atm,t1.ne⟩ hb (by omega) (by omega) ⟨hne,hl,.nil,.nil⟩ rfl rfl fun H' k t' => ?_
    simp only [lstN,C_coord_Coord_Play,A_,simprocAttr,ne_eq,(U_coord_Coord_Play _).1,CHK_,Nat.reduceBEq,re0,re1,hk',a0,hlk]
    refine hok H' _ _ _ ?_ hlen ?_ ?_ t'
    · refine k0.trans ⟨Nat.le_trans (by simp) k.1,fun i hi e=>by
        rw [k.2 i (by simp; omega) (by simp only [List.mem_cons,List.not_mem_nil,or_false,not_or] at e ⊢; exact ⟨by omega,e⟩)]
        exact List.getElem?_append_left hi⟩
    · simp; omega
    · simp; omega
  · have hk':(r.kind=4)=False:=eq_false hk
    simp only [C_coord_Coord_Play,A_,simprocAttr,ne_eq,(U_coord_Coord_Play _).1,hk']
    exact hbad (fun q=>hk q.2) G
end Go.AM
namespace Go.AM
open Go
set_option maxRecDepth 20000
def AwCS (C:CallW) (f:FuncId):Prop:=∀S H (K:AV→St→Prop),(∀H',K (.bool true) ⟨S,H'⟩)→C (.fn f) [] ⟨S,H⟩ K
theorem lst_wk {a b c:AV} {l:List Int}:WkF [a,b,c,.list .full 1 (l.map pI)] [a,b,c,lstN l] := .same (.same (.same (.wk (show WkL [.list .full 1 (l.map pI)] [lstN l] from .full .nil) .nil)))
theorem lst_wk2 {a:AV} {l:List Int}:WkF [a,.list .full 1 (l.map pI)] [a,lstN l] := .same (.wk (show WkL [.list .full 1 (l.map pI)] [lstN l] from .full .nil) .nil)
def xA0:Dx:=⟨⟨0,0⟩,[0,1],[],false,false,⟨0,0⟩,[]⟩
def xA1:Dx:=⟨⟨0,0⟩,[0,1],[0],false,false,⟨5,0⟩,[]⟩
def xA2:Dx:=⟨⟨0,0⟩,[0,1],[0,1],true,true,⟨7,1⟩,[]⟩
set_option maxHeartbeats 8000000 in
theorem law18_awake_spec {C:CallW} (hC:LeC C C) (hW:WkC C) (P:Program) {c:Nat→FuncId} (h0:NewCS C (c 0)) (h1:∀t:Int,FnS C (c 1) [.s (.int .i64 t)] (.agg (stc ⟨t,0⟩))) (h2:BegS C (c 2)) (h3:VoteS C (c 3)) (h4:DecS C (c 4)) (h5:OwesS C (c 5)) (h6:SameIS C (c 6)) (h7:OpenS C (c 7)) (h8:SameIS C (c 8)):∀S H (K:AV→St→Prop),(∀H',K (.bool true) ⟨S,H'⟩)→runL C P (C_hourglasslaw18_awake c) [] ⟨S,H⟩ K:=by
  intro S H K hK
  have v1:voteD xA0 0 true ⟨5,0⟩=(0,xA1):=rfl
  have v2:voteD xA1 1 true ⟨7,1⟩=(0,xA2):=rfl
  simp only [C_hourglasslaw18_awake,A_,simprocAttr,ne_eq,(U_hourglasslaw18_awake _).1]
  refine h0 _ _ _ ?_
  have t0:=newC (H:=H)
  generalize H ++ [HObj.map [] 0,.cells [.map H.length]]=H0 at t0 ⊢
  generalize H.length + 1=h at t0 ⊢
  generalize H.length=hm at t0
  simp only [C_hourglasslaw18_awake,A_,simprocAttr,ne_eq,(U_hourglasslaw18_awake _).1,re0,re1]
  refine h1 0 _ _ _ ?_
  simp only [stc,C_hourglasslaw18_awake,A_,simprocAttr,ne_eq,(U_hourglasslaw18_awake _).1,re0,re1,bslL,fillE,List.isEmpty_cons,List.isEmpty_nil]
  refine hW _ _ _ _ _ (lst_wk (l:=[0,1])) (h2 h hm 1 ⟨0,0⟩ [0,1] _ _ _ t0 (by decide) (fun q=>absurd q (by decide)) fun _ H1 b hv ha _ _ _ _ t => ?_)
  have t:CoX H1 h hm 1 b hv ha xA0:=t
  simp only [C_hourglasslaw18_awake,A_,simprocAttr,ne_eq,(U_hourglasslaw18_awake _).1]
  refine h1 5 _ _ _ ?_
  simp only [stc,C_hourglasslaw18_awake,A_,simprocAttr,ne_eq,(U_hourglasslaw18_awake _).1]
  refine h3 h hm b hv ha 1 xA0 0 true ⟨5,0⟩ _ _ _ t fun H2 _ t => ?_
  rw [v1] at t ⊢
  have t:CoX H2 h hm 1 b hv ha xA1:=t
  simp only [C_hourglasslaw18_awake,A_,simprocAttr,ne_eq,(U_hourglasslaw18_awake _).1]
  refine h4 h hm b hv ha 1 xA1 _ _ _ t ?_
  simp only [show decD xA1=(false,false,⟨0,0⟩) from rfl,stc,C_hourglasslaw18_awake,A_,simprocAttr,ne_eq,(U_hourglasslaw18_awake _).1]
  refine h3 h hm b hv ha 1 xA1 1 true ⟨7,1⟩ _ _ _ t fun H3 _ t => ?_
  rw [v2] at t ⊢
  have t:CoX H3 h hm 1 b hv ha xA2:=t
  simp only [C_hourglasslaw18_awake,A_,simprocAttr,ne_eq,(U_hourglasslaw18_awake _).1]
  refine h4 h hm b hv ha 1 xA2 _ _ _ t ?_
  have u1:(u8 1:AV) = .s (.int .u8 1):=rfl
  simp only [show decD xA2=(true,true,⟨7,1⟩) from rfl,stc,u1,C_hourglasslaw18_awake,A_,simprocAttr,ne_eq,(U_hourglasslaw18_awake _).1]
  refine h5 h hm b hv ha 1 xA2 _ _ _ t ?_
  simp only [show owesD xA2=[0,1] from rfl,C_hourglasslaw18_awake,A_,simprocAttr,ne_eq,(U_hourglasslaw18_awake _).1,bslL,fillE,List.isEmpty_cons,List.isEmpty_nil]
  refine hW _ _ _ _ _ (lst_wk2 (l:=[0,1])) (h6 [0,1] [0,1] _ _ _ (by decide) (by decide) ?_)
  rw [decide_eq_true rfl]
  simp only [C_hourglasslaw18_awake,A_,simprocAttr,ne_eq,(U_hourglasslaw18_awake _).1]
  refine h7 h hm b hv ha 1 xA2 _ _ _ t fun G => ?_
  simp only [show openD 1 xA2=[1] from rfl,C_hourglasslaw18_awake,A_,simprocAttr,ne_eq,(U_hourglasslaw18_awake _).1,bslL,fillE,List.isEmpty_cons,List.isEmpty_nil]
  refine hW _ _ _ _ _ (lst_wk2 (l:=[1])) (h8 [1] [1] _ _ _ (by decide) (by decide) ?_)
  rw [decide_eq_true rfl]
  simp only [C_hourglasslaw18_awake,A_,simprocAttr,ne_eq,(U_hourglasslaw18_awake _).1]
  exact hK _
end Go.AM
namespace Go.AM
open Go
open AV renaming undef → uu
set_option maxRecDepth 20000
structure CAct where
  op:Int
  id:Int
  st:Stp
  parts:List Int
  part:Int
  yes:Bool
  r:Rec
def cactc (a:CAct):List AV:=[.s (.int .i64 a.op),.s (.int .i64 a.id),.s (.int .i64 a.st.t),u8 a.st.n,.list .sh 1 (a.parts.map pI),.s (.int .i64 a.part),.s (.bool a.yes),.s (.int .i64 a.r.kind),.s (.int .i64 a.r.id),.s (.int .i64 a.r.snap.t),u8 a.r.snap.n,.s (.int .i64 a.r.stamp.t),u8 a.r.stamp.n,.list .sh 18 (a.r.writes.map wA),.s (.bool a.r.yes),.list .sh 1 (a.r.parts.map pI)]
def cactA (a:CAct):AV := .agg (cactc a)
theorem ixl_cact {l:List CAct} {i:Nat} (h:i < l.length) (k:IntKind):indexAddrL (.sl 16) (.list .sh 16 (l.map cactA)) (.s (.int k (i:Int)))=some (.rop (cactc l[i])):=ixl_map h (by omega)
structure LogI (parts:List Int) (x:Dx):Prop where
  parts:x.parts=parts
  good:goodS x.st=true
  no:x.known=true→x.yes=false→x.st=⟨0,0⟩
  un:x.known=false→x.yes=false
theorem maxS_good {a b:Stp} (h1:goodS a=true) (h2:goodS b=true):goodS (maxS a b)=true:=by unfold maxS; split <;> assumption
theorem LogI.vote {parts:List Int} {x:Dx} (h:LogI parts x) (part:Int) (y:Bool) (a:Stp):LogI parts (voteD x part y a).2:=by
  by_cases hp:part∈x.parts
  case neg=>rw [voteD_none hp]; exact h
  by_cases hb:y=true∧(goodS a=false∨cmpS a x.snap≤0)
  · rw [voteD_bad hp hb]; exact h
  by_cases ho:x.known=true∨part∈x.votes
  · rw [voteD_old hp hb ho]; exact h
  have hkn:x.known=false:=by simpa using fun q=>ho (.inl q)
  cases y with
  | false =>
    rw [voteD_no hp ho]
    exact ⟨h.parts,show goodS ⟨0,0⟩=true from by decide,fun _ _=>rfl,fun q=>by cases q⟩
  | true =>
    have hb':¬(goodS a=false∨cmpS a x.snap≤0):=fun q=>hb ⟨rfl,q⟩
    have hg:goodS a=true:=by simpa using fun q=>hb' (.inl q)
    by_cases hl:x.votes.length + 1=x.parts.length
    · rw [voteD_all hp hb' ho hl]
      exact ⟨h.parts,maxS_good h.good hg,fun _ q=>(by cases q),fun q=>(by cases q)⟩
    · rw [voteD_yes hp hb' ho hl]
      exact ⟨h.parts,maxS_good h.good hg,fun q=>(by rw [hkn] at q; cases q),h.un⟩
theorem LogI.ack {parts:List Int} {x:Dx} (h:LogI parts x) (part:Int):LogI parts (ackD x part).2:=by
  unfold ackD
  split
  · exact h
  split
  · exact h
  · exact ⟨h.parts,h.good,h.no,h.un⟩
theorem LogI.recd {parts:List Int} {x:Dx} {id:Int} (h:LogI parts x) (hp:goodParts parts=true) (hk:x.known=true) (hid:1≤id):goodRec ⟨4,id,⟨0,0⟩,x.st,[],x.yes,x.parts⟩=true:=by
  have ho:onlyR ⟨4,id,⟨0,0⟩,x.st,[],x.yes,x.parts⟩=⟨4,id,⟨0,0⟩,x.st,[],x.yes,x.parts⟩:=by
    unfold onlyR
    simp only [show ((4:Int)=1)=False from by simp,show ((4:Int)=2)=False from by simp,show ((4:Int)=5)=False from by simp,if_true,if_false,or_self]
    cases hy:x.yes with
    | true=>rfl
    | false=>rw [h.no hk hy]; rfl
  unfold goodRec
  rw [ho]
  simp [hid,h.good,h.parts,hp]
set_option maxHeartbeats 16000000 in
theorem CoordLogs_spec {C:CallW} (hC:LeC C C) (P:Program) {c:Nat→FuncId} (h0:AwCS C (c 0)) (h1:NewCS C (c 1)) (h2:BegS C (c 2)) (h3:VoteS C (c 3)) (h4:AckS C (c 4)) (h5:RecXS C (c 5)) (h6:DecS C (c 6)) (h7:PlayES C (c 7)) (h8:OwesS C (c 8)) (h9:SameIS C (c 9)):∀(snap:Stp) (parts:List Int) (l:List CAct) S H (K:AV→St→Prop),parts.length≤9223372036854775807→l.length≤9223372036854775807→(∀H',K (.bool true) ⟨S,H'⟩)→runL C P (C_hourglasslaw18_CoordLogs c) [.agg (stc snap),lstN parts,.list .sh 16 (l.map cactA)] ⟨S,H⟩ K:=by
  intro snap parts l S H K hpl hl hK
  simp only [stc,lstN,C_hourglasslaw18_CoordLogs,A_,simprocAttr,ne_eq,(U_hourglasslaw18_CoordLogs _).1]
  refine h0 _ _ _ fun H1 => ?_
  by_cases h8':8 < parts.length
  · have e1:((8:Int) < (parts.length:Int))=True:=eq_true (by omega)
    simp only [C_hourglasslaw18_CoordLogs,A_,simprocAttr,ne_eq,(U_hourglasslaw18_CoordLogs _).1,e1]
    exact hK _
  have e1:((8:Int) < (parts.length:Int))=False:=eq_false (by omega)
  by_cases h40:40 < l.length
  · have e2:((40:Int) < (l.length:Int))=True:=eq_true (by omega)
    simp only [C_hourglasslaw18_CoordLogs,A_,simprocAttr,ne_eq,(U_hourglasslaw18_CoordLogs _).1,e1,e2]
    exact hK _
  have e2:((40:Int) < (l.length:Int))=False:=eq_false (by omega)
  simp only [C_hourglasslaw18_CoordLogs,A_,simprocAttr,ne_eq,(U_hourglasslaw18_CoordLogs _).1,e1,e2]
  refine h1 _ _ _ ?_
  have t0:=newC (H:=H1)
  generalize H1 ++ [HObj.map [] 0,.cells [.map H1.length]]=H0 at t0 ⊢
  generalize H1.length + 1=h at t0 ⊢
  generalize H1.length=hm at t0
  simp only [C_hourglasslaw18_CoordLogs,A_,simprocAttr,ne_eq,(U_hourglasslaw18_CoordLogs _).1]
  refine h2 h hm 5 snap parts _ _ _ t0 (by omega) (fun hb => ?_) (fun hb H2 b hv ha k _ _ _ t => ?_)
  · simp only [C_hourglasslaw18_CoordLogs,A_,simprocAttr,ne_eq,(U_hourglasslaw18_CoordLogs _).1]
    exact hK _
  have hp:goodParts parts=true:=by
    unfold badB at hb
    simp only [Bool.or_eq_false_iff,Bool.not_eq_false'] at hb
    exact hb.2
  simp only [C_hourglasslaw18_CoordLogs,A_,simprocAttr,ne_eq,(U_hourglasslaw18_CoordLogs _).1]
  refine loop_rule hC (α:=Nat×List HObj×Dx) (fun a=>l.length - a.1) (fun a=>[.undef,.list .sh 1 (parts.map pI),.list .sh 16 (l.map cactA),uu,uu,uu,uu,.ptr (.heap h) 0,.s (.int .i64 (a.1:Nat)),uu,uu,uu,uu,uu,uu,uu,uu,uu,uu,uu,uu,uu,uu,uu,uu,uu,uu,uu,uu,uu,uu,uu,uu,uu,uu,uu,uu,uu,uu,uu,uu,uu,uu,uu,uu,uu,uu,uu,uu,uu,uu,uu,uu,uu,uu,uu,uu,uu,uu,uu,uu,uu,uu,uu,uu,uu,uu,uu,uu,uu,uu,uu,uu,uu,uu,uu,uu,uu,uu,uu,uu,uu,uu,uu,uu,uu,uu,uu,uu,uu,uu,uu,uu,uu,uu,uu,uu,uu,uu,uu,uu,uu,uu,uu,uu,uu,uu,uu,uu,uu,uu,uu,uu,uu,uu,uu,uu,uu,uu]) (fun _=>S ++ [[.s (.int .i64 snap.t),u8 snap.n]]) (fun a=>a.2.1) (fun a=>a.1≤l.length∧CoX a.2.1 h hm 5 b hv ha a.2.2∧LogI parts a.2.2) (0,H2,_) ⟨Nat.zero_le _,t,rfl,show goodS ⟨0,0⟩=true from by decide,fun q=>(by cases q),fun _=>rfl⟩ (by simp [keep,zm]) (by rw [app_take_add]; rfl) rfl (fun a _=>by simp [AV.under,AV.under.go]) ?_
  clear t k
  rintro ⟨i,H3,x⟩ ⟨hi,t,lg⟩ ih
  dsimp only at hi t lg ih ⊢
  by_cases hil:i < l.length
  · have hlt:((i:Int) < (l.length:Int)):=by omega
    have hw:=wrap_succ (i:=i) (by omega)
    have x1:=ixl_cact hil
    simp only [cactc] at x1
    by_cases ho1:(l[i]).op=1
    · have ho1':((l[i]).op=1)=True:=eq_true ho1
      simp only [C_hourglasslaw18_CoordLogs,A_,simprocAttr,ne_eq,(U_hourglasslaw18_CoordLogs _).1,CHK_,Nat.reduceBEq,hlt,x1,ho1']
      refine h3 h hm b hv ha 5 x (l[i]).part (l[i]).yes (l[i]).st _ _ _ t fun H4 _ t => ?_
      simp only [C_hourglasslaw18_CoordLogs,A_,simprocAttr,ne_eq,(U_hourglasslaw18_CoordLogs _).1,CHK_,Nat.reduceBEq,hw]
      exact ih (i + 1,H4,_) _ _ _ (by dsimp only; omega) ⟨by dsimp only; omega,t,lg.vote _ _ _⟩ (by simp [keep,zm]) (by rw [app_take_add]; rfl) rfl
    · have ho1':((l[i]).op=1)=False:=eq_false ho1
      by_cases ho2:(l[i]).op=2
      · have ho2':((l[i]).op=2)=True:=eq_true ho2
        simp only [C_hourglasslaw18_CoordLogs,A_,simprocAttr,ne_eq,(U_hourglasslaw18_CoordLogs _).1,CHK_,Nat.reduceBEq,hlt,x1,ho1',ho2']
        refine h4 h hm b hv ha 5 x (l[i]).part _ _ _ t fun H4 _ t => ?_
        simp only [C_hourglasslaw18_CoordLogs,A_,simprocAttr,ne_eq,(U_hourglasslaw18_CoordLogs _).1,CHK_,Nat.reduceBEq,hw]
        exact ih (i + 1,H4,_) _ _ _ (by dsimp only; omega) ⟨by dsimp only; omega,t,lg.ack _⟩ (by simp [keep,zm]) (by rw [app_take_add]; rfl) rfl
      · have ho2':((l[i]).op=2)=False:=eq_false ho2
        simp only [C_hourglasslaw18_CoordLogs,A_,simprocAttr,ne_eq,(U_hourglasslaw18_CoordLogs _).1,CHK_,Nat.reduceBEq,hlt,x1,ho1',ho2',hw]
        exact ih (i + 1,H3,x) _ _ _ (by dsimp only; omega) ⟨by dsimp only; omega,t,lg⟩ (by simp [keep,zm]) (by rw [app_take_add]; rfl) rfl
  · have hlt:¬((i:Int) < (l.length:Int)):=by omega
    simp only [C_hourglasslaw18_CoordLogs,A_,simprocAttr,ne_eq,(U_hourglasslaw18_CoordLogs _).1,hlt]
    refine h5 h hm b hv ha 5 x 5 _ _ _ t ?_
    by_cases hkn:x.known=true
    case neg =>
      have hkn':x.known=false:=by simpa using hkn
      have hr:recD 5 x 5=(zRec,false):=if_neg fun q=>hkn q.2
      have hd:decD x=(false,false,⟨0,0⟩):=if_neg hkn
      rw [hr]
      simp only [rcc,C_hourglasslaw18_CoordLogs,A_,simprocAttr,ne_eq,(U_hourglasslaw18_CoordLogs _).1]
      refine h6 h hm b hv ha 5 x _ _ _ t ?_
      rw [hd]
      simp only [stc,C_hourglasslaw18_CoordLogs,A_,simprocAttr,ne_eq,(U_hourglasslaw18_CoordLogs _).1]
      exact hK _
    have hr:recD 5 x 5=(⟨4,5,⟨0,0⟩,x.st,[],x.yes,x.parts⟩,true):=if_pos ⟨rfl,hkn⟩
    have hd:decD x=(true,x.yes,x.st):=if_pos hkn
    have hgr:=lg.recd (id:=5) hp hkn (by decide)
    have hlen:x.parts.length≤1000000:=t.ok.len
    rw [hr]
    simp only [rcc,C_hourglasslaw18_CoordLogs,A_,simprocAttr,ne_eq,(U_hourglasslaw18_CoordLogs _).1]
    refine h6 h hm b hv ha 5 x _ _ _ t ?_
    rw [hd]
    simp only [stc,C_hourglasslaw18_CoordLogs,A_,simprocAttr,ne_eq,(U_hourglasslaw18_CoordLogs _).1]
    refine h1 _ _ _ ?_
    have u0:=newC (H:=H3)
    generalize H3 ++ [HObj.map [] 0,.cells [.map H3.length]]=H4 at u0 ⊢
    generalize H3.length + 1=h' at u0 ⊢
    generalize H3.length=hm' at u0
    simp only [stc,C_hourglasslaw18_CoordLogs,A_,simprocAttr,ne_eq,(U_hourglasslaw18_CoordLogs _).1]
    refine h7 h' hm' ⟨4,5,⟨0,0⟩,x.st,[],x.yes,x.parts⟩ _ _ _ u0 ⟨by simp,by dsimp only; omega⟩ hlen (fun q=>absurd ⟨hgr,rfl⟩ q) (fun _ H5 b' hv' ha' _ _ _ _ u => ?_)
    simp only [stc,C_hourglasslaw18_CoordLogs,A_,simprocAttr,ne_eq,(U_hourglasslaw18_CoordLogs _).1]
    refine h6 h' hm' b' hv' ha' 5 _ _ _ _ u ?_
    simp only [decD,if_true,stc,C_hourglasslaw18_CoordLogs,A_,simprocAttr,ne_eq,(U_hourglasslaw18_CoordLogs _).1]
    refine h8 h' hm' b' hv' ha' 5 _ _ _ _ u ?_
    have how:owesD ⟨⟨0,0⟩,x.parts,[],true,x.yes,x.st,[]⟩=parts:=by
      unfold owesD
      rw [List.filter_eq_self.2 fun v _=>by simp]
      exact lg.parts
    rw [how]
    simp only [lstN,C_hourglasslaw18_CoordLogs,A_,simprocAttr,ne_eq,(U_hourglasslaw18_CoordLogs _).1]
    refine h9 parts parts _ _ _ (by omega) (by omega) ?_
    rw [decide_eq_true rfl]
    simp only [C_hourglasslaw18_CoordLogs,A_,simprocAttr,ne_eq,(U_hourglasslaw18_CoordLogs _).1]
    exact hK _
end Go.AM
namespace Go.AM
open Go
set_option maxRecDepth 20000
end Go.AM
namespace Go.AM
open Go
set_option maxRecDepth 20000
theorem law13_at_spec {C:CallW} (P:Program):∀(t:Int) S H (K:AV→St→Prop),K (.agg (stc ⟨t,0⟩)) ⟨S,H⟩→runL C P C_hourglasslaw13_at [.s (.int .i64 t)] ⟨S,H⟩ K:=by
  intro t S H K hK
  simp only [C_hourglasslaw13_at,A_,simprocAttr,ne_eq,U_hourglasslaw13_at.1]
  exact hK
end Go.AM
namespace Go.AM
open Go
section
variable {H:Type} {enc:TypeId×Value→H} {P:Program} {w:World} {sp:Nat→Bool} {held:Bool}
theorem of_each {α β:Type} {f:β→α}:∀(l:List α),(∀x∈l,∃b,x=f b)→∃bs:List β,l=bs.map f
  | [],_=>⟨[],rfl⟩
  | x :: l,h=>by
    obtain ⟨b,rfl⟩:=h x List.mem_cons_self
    obtain ⟨bs,rfl⟩:=of_each l fun y hy=>h y (List.mem_cons_of_mem _ hy)
    exact ⟨b :: bs,rfl⟩
theorem trodAll_stays {W W' : World} (hl : laidOutB P = true) (hb : RowKit.Below W.heap.size W W') : ∀ {ts : List TypeId} {vs : List Value} {ds : List (DataW H)} {ps : List MemPlace}, (∀ t ∈ ts, P.readableRec t = true ∧ t < P.types.size) →
    DataW.TrodAll enc P W 0 (fun _=>true) true ts vs ds ps→DataW.TrodAll enc P W' 0 (fun b=>decide (b < W.heap.size)) true ts vs ds ps
  | [],[],[],_,_,h=>h
  | t :: ts,v :: vs,d :: ds,ps,ht,⟨p,q,h1,h2,e⟩=>by
    obtain ⟨n,hn⟩:=h1
    exact ⟨p,q,RowKit.Below.trod hl (ht t List.mem_cons_self).1 (ht t List.mem_cons_self).2 ⟨n,hn⟩ hb (DataW.trod_lt n _ _ _ hn),trodAll_stays hl hb (fun t h=>ht t (List.mem_cons_of_mem _ h)) h2,e⟩
  | [],[],_ :: _,_,_,h=>h.elim
  | [],_ :: _,_,_,_,h=>h.elim
  | _ :: _,[],_,_,_,h=>h.elim
  | _ :: _,_ :: _,[],_,_,h=>h.elim
end
end Go.AM
namespace Go.AM
open Go
section
variable {H:Type} {enc:TypeId×Value→H} {P:Program} {w:World} {sp:Nat→Bool} {held:Bool}
def contig (P:Program):List Field→Nat→Nat→Bool
  | [],o,tot=>o == tot
  | f :: l,o,tot=>f.offset == o && contig P l (o + P.cellsOf f.type) tot
def plainT (P:Program):Nat→TypeId→Bool
  | 0,_=>false
  | d + 1,t=>match P.underlying t with
    | some .bool | some (.int _) | some .string=>true
    | some (.slice e)=>decide (0 < P.cellsOf e) && (isAgg P e || P.cellsOf e == 1) && plainT P d e
    | some (.struct fs)=>contig P fs.toList 0 (P.cellsOf t) && fs.toList.all fun f=>plainT P d f.type
    | some (.array m e)=>P.cellsOf t == m * P.cellsOf e && plainT P d e
    | _=>false
def shp (P:Program):Nat→TypeId→List AV→Prop
  | 0,_,_=>False
  | d + 1,t,as=>match P.underlying t with
    | some .bool=>∃b,as=[.s (.bool b)]
    | some (.int k)=>∃i,as=[.s (.int k i)]∧(Lit.int k i).wf=true
    | some .string=>∃l,as=[.s (.str l)]∧l.length≤maxLen
    | some (.slice e)=>∃es:List AV,as=[.list .sh (P.cellsOf e) es]∧es.length≤maxLen∧∀x∈es,shp P d e x.cells∧(isAgg P e=true→x = .agg x.cells)∧(isAgg P e=false→x.cells=[x])
    | some (.struct fs)=>fs.toList.foldr (fun f (Q:List AV→Prop) as=>∃a b,as=a ++ b∧shp P d f.type a∧Q b) (fun as=>as=[]) as
    | some (.array m e)=>∃ps:List (List AV),ps.length=m∧as=ps.flatten∧∀p∈ps,shp P d e p
    | _=>False
structure Tells (w:World) (as:List AV) (cs:List Value):Prop where
  vl:VL G.none w as cs
  cell:∀c∈as,c.isCell=true
  low:AV.under.go 0 as=true
theorem Tells.nil:Tells w [] []:=⟨.nil,(fun _ h=>by cases h),rfl⟩
theorem Tells.app {a b:List AV} {c d:List Value} (h:Tells w a c) (h':Tells w b d):Tells w (a ++ b) (c ++ d) :=
  ⟨h.vl.app h'.vl,fun x hx=>(List.mem_append.1 hx).elim (h.cell x) (h'.cell x),by rw [under_app',h.low,h'.low]; rfl⟩
theorem Tells.flat:∀{ps:List (List AV)} {qs:List (List Value)},ps.length=qs.length→(∀(i:Nat) (p:List AV) (q:List Value),ps[i]? = some p→qs[i]? = some q→Tells w p q)→Tells w ps.flatten qs.flatten
  | [],[],_,_ => .nil
  | [],_ :: _,h,_=>by simp at h
  | _ :: _,[],h,_=>by simp at h
  | p :: ps,q :: qs,h,hall=>by
    rw [List.flatten_cons,List.flatten_cons]
    exact (hall 0 p q rfl rfl).app (Tells.flat (by simpa using h) fun i a b ha hb=>hall (i + 1) a b (by simpa using ha) (by simpa using hb))
theorem Tells.sc (x:Sc):Tells w [.s x] [x.toV]:=⟨.sc x .nil,fun c hc=>by rw [List.mem_singleton.1 hc]; rfl,rfl⟩
theorem lies_flat {b c:Nat}:∀(qs:List (List Value)) (off:Nat),(∀i q,qs[i]? = some q→w.cells? 0 ⟨b,off + i * c,none⟩ c=some q)→∀j v,qs.flatten[j]? = some v→w.cell? ⟨b,off + j,none⟩=some v
  | [],off,_,j,v,h=>by simp at h
  | q :: qs,off,hall,j,v,h=>by
    have hk:=hall 0 q rfl
    rw [Nat.zero_mul,Nat.add_zero] at hk
    have hs:=World.cells?_some hk
    rw [List.flatten_cons] at h
    by_cases hj:j < c
    · rw [List.getElem?_append_left (by omega)] at h
      have:=hs.2.2 j hj
      rw [Addr.add_lit] at this
      rw [this]; exact h
    · rw [List.getElem?_append_right (by omega),hs.2.1] at h
      have:=lies_flat qs (off + c) (fun i q hi=>by
        have:=hall (i + 1) q (by simpa using hi)
        rw [show off + c + i * c=off + (i + 1) * c by rw [Nat.add_mul]; omega]
        exact this) (j - c) v h
      rwa [show off + c + (j - c)=off + j by omega] at this
theorem choose_list {β:Type} {n:Nat} {p:Nat→β→Prop} (h:∀i,i < n→∃b,p i b):∃l:List β,l.length=n∧∀i b,l[i]? = some b→p i b:=by
  induction n with
  | zero=>exact ⟨[],rfl,fun i b h=>by simp at h⟩
  | succ n ih =>
    obtain ⟨l,hl,hall⟩:=ih fun i hi=>h i (by omega)
    obtain ⟨b,hb⟩:=h n (by omega)
    refine ⟨l ++ [b],by simp [hl],fun i c hc => ?_⟩
    by_cases hi:i < l.length
    · rw [List.getElem?_append_left hi] at hc; exact hall i c hc
    · rw [List.getElem?_append_right (by omega)] at hc
      have:i=n:=by
        have:=(List.getElem?_eq_some_iff.1 hc).1
        simp at this; omega
      subst this
      rw [hl,Nat.sub_self] at hc
      injection hc with hc; subst hc; exact hb
def elemA (ag:Bool) (as:List AV):AV:=match ag with
  | true => .agg as
  | false=>as.getD 0 .undef
theorem elemA_cells {w:World} {ag:Bool} {as:List AV} {cs:List Value} (h:Tells w as cs) (hl:ag=true∨as.length=1):(elemA ag as).cells=as:=by
  cases ag with
  | true=>rfl
  | false =>
    obtain ⟨a,rfl⟩:=List.length_eq_one_iff.1 (hl.resolve_left (by simp))
    have hc:=h.cell a (by simp)
    show a.cells=[a]
    cases a <;> simp [AV.isCell] at hc <;> rfl
theorem elemA_low {w:World} {ag:Bool} {as:List AV} {cs:List Value} (h:Tells w as cs) (hl:ag=true∨as.length=1):AV.under 0 (elemA ag as)=true:=by
  cases ag with
  | true=>exact h.low
  | false =>
    obtain ⟨a,rfl⟩:=List.length_eq_one_iff.1 (hl.resolve_left (by simp))
    have:=h.low
    simpa [elemA,AV.under.go] using this
theorem trod_struct_shp {d m tot : Nat} {cs : List Value} (ih : ∀ t, plainT P d t = true → ∀ N cs x, DataW.trod enc P w 0 sp held N t cs = some x → ∃ as, shp P d t as ∧ Tells w as cs) (htot : cs.length = tot) :
    ∀(l:List Field) (o:Nat),contig P l o tot=true→(l.all fun f=>plainT P d f.type)=true→(∀f∈l,∃x,DataW.trod enc P w 0 sp held m f.type ((cs.drop f.offset).take (P.cellsOf f.type))=some x) →
    ∃as,l.foldr (fun f (Q:List AV→Prop) as=>∃a b,as=a ++ b∧shp P d f.type a∧Q b) (fun as=>as=[]) as∧Tells w as (cs.drop o)
  | [],o,hc,_,_=>by
    have:o=tot:=by simpa [contig] using hc
    subst this
    rw [List.drop_of_length_le (by omega)]
    exact ⟨[],rfl,.nil⟩
  | f :: l,o,hc,hp,hall=>by
    simp only [contig,Bool.and_eq_true,beq_iff_eq] at hc
    simp only [List.all_cons,Bool.and_eq_true] at hp
    obtain ⟨x,hx⟩:=hall f List.mem_cons_self
    obtain ⟨a,ha,hta⟩:=ih _ hp.1 _ _ _ hx
    obtain ⟨b,hb,htb⟩:=trod_struct_shp ih htot l _ hc.2 hp.2 fun g hg=>hall g (List.mem_cons_of_mem _ hg)
    refine ⟨a ++ b,⟨a,b,rfl,ha,hb⟩,?_⟩
    rw [hc.1] at hta
    have:cs.drop o=(cs.drop o).take (P.cellsOf f.type) ++ cs.drop (o + P.cellsOf f.type):=by
      rw [←List.drop_drop,List.take_append_drop]
    rw [this]
    exact hta.app htb
theorem flat_parts {c:Nat}:∀(m:Nat) (cs:List Value),cs.length=m * c→((List.range m).map fun i=>(cs.drop (i * c)).take c).flatten=cs
  | 0,cs,h=>by simp at h; subst h; rfl
  | m + 1,cs,h=>by
    rw [List.range_succ_eq_map,List.map_cons,List.map_map,List.flatten_cons,Nat.zero_mul,List.drop_zero]
    have:=flat_parts (c:=c) m (cs.drop c) (by rw [List.length_drop,h,Nat.add_mul]; omega)
    have e:((fun i=>(cs.drop (i * c)).take c) ∘ Nat.succ)=fun i=>((cs.drop c).drop (i * c)).take c:=by
      funext i
      simp only [Function.comp,List.drop_drop,Nat.succ_eq_add_one,Nat.add_mul,Nat.one_mul]
      rw [Nat.add_comm c]
    rw [e,this,List.take_append_drop]
theorem trod_shp:∀(d:Nat) (t:TypeId),plainT P d t=true→∀(N:Nat) (cs:List Value) (x:DataW H×List MemPlace),DataW.trod enc P w 0 sp held N t cs=some x→∃as,shp P d t as∧Tells w as cs
  | 0,t,h,_,_,_,_=>by simp [plainT] at h
  | d + 1,t,h,N,cs,x,hx=>by
    have ih:=trod_shp d
    unfold plainT at h
    unfold shp
    cases hu:P.underlying t with
    | none=>rw [hu] at h; cases h
    | some D =>
      rw [hu] at h
      cases D with
      | bool =>
        obtain ⟨b,rfl,_⟩:=DataW.trod_bool hu hx
        exact ⟨_,⟨b,rfl⟩,.sc (.bool b)⟩
      | int k =>
        obtain ⟨n,rfl,_,hw⟩:=DataW.trod_int hu hx
        exact ⟨_,⟨n,rfl,hw⟩,.sc (.int k n)⟩
      | string =>
        obtain ⟨s,rfl,_,hl⟩:=DataW.trod_string hu hx
        refine ⟨_,⟨s.data.toList,rfl,by simpa using hl⟩,?_⟩
        have:=Tells.sc (w:=w) (.str s.data.toList)
        simpa [Sc.toV] using this
      | slice e =>
        simp only [Bool.and_eq_true,decide_eq_true_eq,Bool.or_eq_true,beq_iff_eq] at h
        obtain ⟨⟨hpos,hag⟩,hpe⟩:=h
        rcases DataW.trod_slice hu hx with ⟨rfl,_⟩ | ⟨a,len,cap,elems,rest,n,_,rfl,_,_,hle,hcap,hlen,hel,_,_⟩
        · exact ⟨_,⟨[],rfl,Nat.zero_le _,fun _ h=>by cases h⟩,⟨.lnil hpos .nil,fun c hc=>by rw [List.mem_singleton.1 hc]; rfl,rfl⟩⟩
        · have each:∀i,i < len→∃z:List Value×List AV,w.cells? 0 (a.add (i * P.cellsOf e)) (P.cellsOf e)=some z.1∧shp P d e z.2∧Tells w z.2 z.1:=fun i hi=>by
            have h1:=hel i hi
            rw [List.getElem?_eq_getElem (by omega)] at h1
            obtain ⟨q,hq,hq2⟩:=Option.bind_eq_some_iff.1 h1
            obtain ⟨as,h2,h3⟩:=ih e hpe _ _ _ hq2
            exact ⟨(q,as),hq,h2,h3⟩
          obtain ⟨l,hl,hall⟩:=choose_list each
          have hin:∀z∈l,(∃i,w.cells? 0 (a.add (i * P.cellsOf e)) (P.cellsOf e)=some z.1)∧shp P d e z.2∧Tells w z.2 z.1:=fun z hz=>by
            obtain ⟨i,hi⟩:=List.getElem?_of_mem hz
            exact ⟨⟨i,(hall i z hi).1⟩,(hall i z hi).2⟩
          have hone:∀z∈l,z.2.length=P.cellsOf e:=fun z hz=>by
            obtain ⟨⟨i,h1⟩,_,h2⟩:=hin z hz
            rw [←h2.vl.length]; exact (World.cells?_some h1).2.1
          have hag':∀z∈l,isAgg P e=true∨z.2.length=1:=fun z hz=>hag.imp id fun h=>by rw [hone z hz,h]
          let es:List AV:=l.map fun z=>elemA (isAgg P e) z.2
          have hcells:es.flatMap AV.cells=(l.map (·.2)).flatten:=by
            have:∀(l':List (List Value×List AV)),(∀z∈l',z∈l)→(l'.map fun z=>elemA (isAgg P e) z.2).flatMap AV.cells=(l'.map (·.2)).flatten:=by
              intro l'
              induction l' with
              | nil=>intro _; rfl
              | cons z l' ihl =>
                intro hs
                rw [List.map_cons,List.flatMap_cons,List.map_cons,List.flatten_cons,ihl fun y hy=>hs y (List.mem_cons_of_mem _ hy)]
                have hz:=hs z List.mem_cons_self
                rw [elemA_cells (hin z hz).2.2 (hag' z hz)]
            exact this l fun _ h=>h
          have hspot:es=[]∨a.spot=none:=by
            by_cases h0:len=0
            · left; apply List.length_eq_zero_iff.1; simp [es,hl,h0]
            · right
              obtain ⟨z,hz,_⟩:=each 0 (by omega)
              have h1:=(World.cells?_some hz).2.2 0 hpos
              have h2:(a.add (0 * P.cellsOf e)).add 0=a:=by simp [Addr.add]
              rw [h2,List.getElem?_eq_getElem (by rw [(World.cells?_some hz).2.1]; exact hpos)] at h1
              unfold World.cell? at h1
              split at h1
              · split at h1
                · cases h1
                · rename_i h3; simpa using h3
              · cases h1
          have htell:Tells w (l.map (·.2)).flatten (l.map (·.1)).flatten:=Tells.flat (by simp) fun i p q hp hq=>by
            rw [List.getElem?_map] at hp hq
            cases hz:l[i]? with
            | none=>rw [hz] at hp; cases hp
            | some z =>
              rw [hz] at hp hq
              injection hp with hp; injection hq with hq; subst hp; subst hq
              exact (hall i z hz).2.2
          refine ⟨_,⟨es,rfl,by simp [es,hl]; omega,fun y hy => ?_⟩,⟨?_,fun c hc=>by rw [List.mem_singleton.1 hc]; rfl,rfl⟩⟩
          · obtain ⟨z,hz,rfl⟩:=List.mem_map.1 hy
            rw [elemA_cells (hin z hz).2.2 (hag' z hz)]
            refine ⟨(hin z hz).2.1,fun h=>by rw [h]; rfl,fun h => ?_⟩
            obtain ⟨a,ha⟩:=List.length_eq_one_iff.1 ((hag' z hz).resolve_left (by rw [h]; simp))
            rw [ha,h]; rfl
          · refine .list (xs:=(l.map (·.1)).flatten) (.inl rfl) (by simp [es,hl]) hle hpos hspot (fun y hy => ?_) ?_ (by rw [hcells]; exact htell.vl) (fun i v hv=>⟨?_,fun h=>(show False from h)⟩) .nil
            · obtain ⟨z,hz,rfl⟩:=List.mem_map.1 hy
              rw [elemA_cells (hin z hz).2.2 (hag' z hz)]
              exact ⟨hone z hz,(hin z hz).2.2.cell⟩
            · refine under_mem.2 fun y hy => ?_
              obtain ⟨z,hz,rfl⟩:=List.mem_map.1 hy
              exact elemA_low (hin z hz).2.2 (hag' z hz)
            · rcases hspot with h0 | h0
              · have:l=[]:=by simpa [es] using h0
                rw [this] at hv; simp at hv
              · obtain ⟨ab,ao,as⟩:=a
                dsimp only at h0; subst h0
                refine lies_flat (c:=P.cellsOf e) _ ao (fun j q hq => ?_) i v hv
                rw [List.getElem?_map] at hq
                cases hz:l[j]? with
                | none=>rw [hz] at hq; cases hq
                | some z =>
                  rw [hz] at hq
                  injection hq with hq; subst hq
                  have:=(hall j z hz).1
                  rwa [Addr.add_lit] at this
      | struct fs =>
        simp only [Bool.and_eq_true] at h
        obtain ⟨xs,n,_,_,hl,hxl,hf⟩:=DataW.trod_struct hu hx
        obtain ⟨as,h1,h2⟩:=trod_struct_shp (m:=n) ih hl fs.toList 0 h.1 h.2 fun f hm=>by
          obtain ⟨i,hi⟩:=List.getElem?_of_mem hm
          have hi':fs[i]? = some f:=by simpa using hi
          have:=hf i f hi'
          have hlt:=(Array.getElem?_eq_some_iff.1 hi').1
          rw [List.getElem?_eq_getElem (by omega)] at this
          exact ⟨_,this⟩
        exact ⟨as,h1,by simpa using h2⟩
      | array m e =>
        simp only [Bool.and_eq_true,beq_iff_eq] at h
        obtain ⟨xs,n,_,_,hl,hxl,hf⟩:=DataW.trod_array hu hx
        obtain ⟨ps,hpl,hall⟩:=choose_list (n:=m) (p:=fun i as=>shp P d e as∧Tells w as ((cs.drop (i * P.cellsOf e)).take (P.cellsOf e))) fun i hi=>by
          have:=hf i hi
          rw [List.getElem?_eq_getElem (by omega)] at this
          exact ih e h.2 _ _ _ this
        refine ⟨ps.flatten,⟨ps,hpl,rfl,fun p hp => ?_⟩,?_⟩
        · obtain ⟨i,hi⟩:=List.getElem?_of_mem hp
          exact (hall i p hi).1
        · rw [←flat_parts (c:=P.cellsOf e) m cs (by rw [hl,h.1])]
          refine Tells.flat (by simp [hpl]) fun i p q hp hq => ?_
          have hlt:i < m:=by have:=(List.getElem?_eq_some_iff.1 hp).1; omega
          have:q=(cs.drop (i * P.cellsOf e)).take (P.cellsOf e):=by
            rw [List.getElem?_map,List.getElem?_range hlt] at hq
            injection hq with hq; exact hq.symm
          subst this
          exact (hall i p hp).2
      | _=>cases h
def argA (ag:Bool) (as:List AV):AV:=elemA ag as
theorem trod_arg {d : Nat} {t : TypeId} {v : Value} {D : DataW H} {ps : List MemPlace} (hp : plainT P d t = true) (hok : Value.okWide P w .any 0 t v) (h : DataW.Trod enc P w 0 sp held t v D ps) :
    ∃as,shp P d t as∧V G.none w (argA (isAgg P t) as) v:=by
  obtain ⟨n,hn⟩:=h
  obtain ⟨as,h1,h2⟩:=trod_shp d t hp n _ _ hn
  refine ⟨as,h1,?_⟩
  cases hu:P.underlying t with
  | none =>
    cases d with
    | zero=>simp [plainT] at hp
    | succ d=>rw [plainT,hu] at hp; cases hp
  | some D =>
    have scalar:isAgg P t=false→(∀xs,v≠.agg xs)→V G.none w (argA (isAgg P t) as) v:=fun hf hv=>by
      rw [hf]
      have e:v.cells.toList=[v]:=by
        cases v <;> first | rfl | exact (hv _ rfl).elim
      rw [e] at h2
      obtain ⟨a,as',rfl,h3,h4⟩:∃a as',as=a :: as'∧V G.none w a v∧VL G.none w as' []:=by
        cases as with
        | nil=>have:=h2.vl.length; simp at this
        | cons a as' =>
          obtain ⟨v',vs',hh,h3,h4⟩:=h2.vl.cons_left
          injection hh with hh1 hh2; subst hh1; subst hh2
          exact ⟨a,as',rfl,h3,h4⟩
      exact h3
    cases D with
    | struct fs =>
      simp only [Value.okWide,hu] at hok
      obtain ⟨cs,rfl,_,_⟩:=hok
      rw [show isAgg P t=true by simp [isAgg,hu]]
      exact .agg h2.cell (by simpa [Value.cells] using h2.vl) .nil
    | array m e =>
      simp only [Value.okWide,hu] at hok
      obtain ⟨cs,rfl,_,_⟩:=hok
      rw [show isAgg P t=true by simp [isAgg,hu]]
      exact .agg h2.cell (by simpa [Value.cells] using h2.vl) .nil
    | _ =>
      refine scalar (by simp [isAgg,hu]) fun xs hv => ?_
      subst hv
      simp [Value.okWide,Cell.okWide,Cell.ok,hu] at hok
end
end Go.AM
namespace Go.AM
open Go
section
variable {P:Program}
def parts (P:Program) (d:Nat):List TypeId→List AV→Prop
  | [],as=>as=[]
  | u :: ts,as=>∃a b,as=a ++ b∧shp P d u a∧parts P d ts b
theorem parts_of {d:Nat}:∀{fs:List Field} {as:List AV},fs.foldr (fun f (Q:List AV→Prop) as=>∃a b,as=a ++ b∧shp P d f.type a∧Q b) (fun as=>as=[]) as→parts P d (fs.map (·.type)) as
  | [],_,h=>h
  | f :: fs,as,h=>by
    obtain ⟨a,b,h1,h2,h3⟩:=h
    exact ⟨a,b,h1,h2,parts_of h3⟩
theorem shp_struct {d:Nat} {t:TypeId} {fs:Array Field} {ts:List TypeId} {as:List AV} (ht:P.underlying t=some (.struct fs)) (hts:fs.toList.map (·.type)=ts) (h:shp P (d + 1) t as):parts P d ts as:=by
  unfold shp at h
  rw [ht] at h
  subst hts
  exact parts_of h
theorem shp_int {d:Nat} {t:TypeId} {k:IntKind} {as:List AV} (ht:P.underlying t=some (.int k)) (h:shp P (d + 1) t as):∃i,as=[.s (.int k i)]∧(Lit.int k i).wf=true:=by
  unfold shp at h; rw [ht] at h; exact h
theorem shp_bool {d:Nat} {t:TypeId} {as:List AV} (ht:P.underlying t=some .bool) (h:shp P (d + 1) t as):∃b,as=[.s (.bool b)]:=by
  unfold shp at h; rw [ht] at h; exact h
theorem shp_str {d:Nat} {t:TypeId} {as:List AV} (ht:P.underlying t=some .string) (h:shp P (d + 1) t as):∃l,as=[.s (.str l)]∧l.length≤maxLen:=by
  unfold shp at h; rw [ht] at h; exact h
theorem shp_u8 {d:Nat} {t:TypeId} {as:List AV} (ht:P.underlying t=some (.int .u8)) (h:shp P (d + 1) t as):∃b:UInt8,as=[u8 b]:=by
  obtain ⟨i,rfl,hw⟩:=shp_int ht h
  have:=bounds_u8 hw
  refine ⟨UInt8.ofNat i.toNat,?_⟩
  have:((UInt8.ofNat i.toNat).toNat:Int)=i:=by rw [UInt8.toNat_ofNat']; omega
  show _=[AV.s (.int .u8 _)]
  rw [this]
theorem shp_key {d:Nat} {t u:TypeId} {as:List AV} (ht:P.underlying t=some (.array 16 u)) (hu:P.underlying u=some (.int .u8)) (h:shp P (d + 2) t as):∃k:Key,as=bs k.b:=by
  unfold shp at h; rw [ht] at h
  obtain ⟨ps,hl,rfl,hall⟩:=h
  obtain ⟨l,rfl⟩:=of_each (f:=fun b=>[u8 b]) ps fun p hp=>shp_u8 hu (hall p hp)
  refine ⟨⟨l,by simpa using hl⟩,?_⟩
  show _=l.map u8
  clear hl hall
  induction l with
  | nil=>rfl
  | cons b l ih=>simp only [List.map_cons,List.flatten_cons,ih]; rfl
theorem shp_wr {d : Nat} {t tk u ts tb : TypeId} {fs : Array Field} {as : List AV} (ht : P.underlying t = some (.struct fs)) (hf : fs.toList.map (·.type) = [tk, ts, tb]) (hk : P.underlying tk = some (.array 16 u)) (hu : P.underlying u = some (.int .u8)) (hs : P.underlying ts = some .string) (hb : P.underlying tb = some .bool)
    (h:shp P (d + 3) t as):∃w:Wr,as=wc w:=by
  obtain ⟨a,r,rfl,h1,a2,r2,rfl,h2,a3,r3,rfl,h3,rfl⟩:=shp_struct ht hf h
  obtain ⟨k,rfl⟩:=shp_key hk hu h1
  obtain ⟨l,rfl,_⟩:=shp_str hs h2
  obtain ⟨b,rfl⟩:=shp_bool hb h3
  exact ⟨⟨k,l,b⟩,rfl⟩
end
end Go.AM
namespace Go.AM
open Go
section
variable {P:Program}
theorem shp_stamp {d:Nat} {t ti tn:TypeId} {fs:Array Field} {as:List AV} (ht:P.underlying t=some (.struct fs)) (hf:fs.toList.map (·.type)=[ti,tn]) (hi:P.underlying ti=some (.int .i64)) (hn:P.underlying tn=some (.int .u8)) (h:shp P (d + 2) t as):∃s:Stp,as=stc s:=by
  obtain ⟨a,r,rfl,h1,a2,r2,rfl,h2,rfl⟩:=shp_struct ht hf h
  obtain ⟨i,rfl,_⟩:=shp_int hi h1
  obtain ⟨b,rfl⟩:=shp_u8 hn h2
  exact ⟨⟨i,b⟩,rfl⟩
end
end Go.AM
namespace Go.AM
open Go
variable {P:Program}
theorem wT {α:Type} {p:α→Prop} (h:∃x,p x):∃x,p x∧True:=h.imp fun _ e=>⟨e,trivial⟩
theorem of_eachQ {α:Type} {f:α→AV} {Q:α→Prop}:∀(es:List AV),(∀x∈es,∃a,x=f a∧Q a)→∃l:List α,es=l.map f∧∀a∈l,Q a
  | [],_=>⟨[],rfl,fun a h=>by cases h⟩
  | x :: es,h=>by
    obtain ⟨a,rfl,hq⟩:=h x (List.mem_cons_self ..)
    obtain ⟨l,rfl,hl⟩:=of_eachQ es fun y hy=>h y (List.mem_cons_of_mem _ hy)
    exact ⟨a :: l,rfl,fun b hb=>by rcases List.mem_cons.1 hb with rfl | hb; exact hq; exact hl b hb⟩
theorem shp_sliceQ {d : Nat} {t e : TypeId} {c : Nat} {as : List AV} {α : Type} (f : α → AV) (Q : α → Prop) (ht : P.underlying t = some (.slice e)) (hc : P.cellsOf e = c) (he : ∀ x : AV, shp P d e x.cells → (isAgg P e = true → x = .agg x.cells) → (isAgg P e = false → x.cells = [x]) → ∃ a, x = f a ∧ Q a) (h : shp P (d + 1) t as) :
    ∃l:List α,as=[.list .sh c (l.map f)]∧l.length≤9223372036854775807∧∀a∈l,Q a:=by
  subst hc
  unfold shp at h; rw [ht] at h
  obtain ⟨es,rfl,hl,hall⟩:=h
  obtain ⟨l,rfl,hq⟩:=of_eachQ (f:=f) es fun x hx=>he x (hall x hx).1 (hall x hx).2.1 (hall x hx).2.2
  refine ⟨l,rfl,?_,hq⟩
  rw [List.length_map] at hl
  unfold maxLen at hl; omega
theorem shp_i64 {d:Nat} {t:TypeId} {as:List AV} (ht:P.underlying t=some (.int .i64)) (h:shp P (d + 1) t as):∃i:Int,as=[.s (.int .i64 i)]∧-9223372036854775808≤i∧i≤9223372036854775807:=by
  obtain ⟨i,rfl,hw⟩:=shp_int ht h
  refine ⟨i,rfl,?_⟩
  unfold Lit.wf at hw
  rw [Bool.and_eq_true] at hw
  have h1:=of_decide_eq_true hw.1
  have h2:=of_decide_eq_true hw.2
  simp [IntKind.min,IntKind.max,IntKind.signed,IntKind.bits] at h1 h2
  omega
end Go.AM
