import Derived.Test.YtpbpnojhflfkfaaM11
import Derived.Test.YtpbpnojhflfkfaaM7
import Derived.Test.YtpbpnojhflfkfaaM10
import Derived.OpenShut
import Derived.Carry
import Derived.ChangeOld
set_option linter.unusedSimpArgs false
set_option linter.unusedVariables false
namespace Go.AM
open Go
set_option maxRecDepth 20000
def againQ (pts:List Key) (q:List (Int×Tx1)) (id:Int):List Msg:=match getQ q id with
  | none=>[]
  | some x=>if x.step=1∨x.step=2 then allF pts id x else []
def FAgS (C:CallW) (f:FuncId):Prop:=∀(h ht:Nat) (pts:List Key) (O:List Nat) (q:List (Int×Tx1)) (id:Int) S H (K:AV→St→Prop),FrA H O h ht pts q→K (lstM (againQ pts q id)) ⟨S,H⟩→C (.fn f) [.ptr (.heap h) 0,.s (.int .i64 id)] ⟨S,H⟩ K
theorem lstM_nil:WkL [(AV.s .nilS).sh] [lstM []] := .nilS (by omega) .nil
set_option maxHeartbeats 4000000 in
theorem front_Again_spec {C:CallW} (P:Program) {c:Nat→FuncId} (h0:FAllS C (c 0)):∀(h ht:Nat) (pts:List Key) (O:List Nat) (q:List (Int×Tx1)) (id:Int) S H (K:AV→St→Prop),FrA H O h ht pts q→K (lstM (againQ pts q id)) ⟨S,H⟩→runL C P (Czj c) [.ptr (.heap h) 0,.s (.int .i64 id)] ⟨S,H⟩ (WkK K):=by
  rintro h ht pts O q id S H K ⟨hl,l,t,rfl⟩ hK
  have a0:=t.at0
  have lk:=fun S'=>t.look (S:=S') id
  unfold againQ at hK
  cases hg:getB FT.id l id with
  | none =>
    rw [getQ_none hg] at hK
    rw [hg] at lk
    simp only [Czj,A_,simprocAttr,ne_eq,(Uzt _).1,CHK_,Nat.reduceBEq,a0,lk,re0F]
    exact ⟨_,.inr lstM_nil,hK⟩
  | some s =>
    rw [getQ_some hg] at hK
    rw [hg] at lk
    dsimp only at hK
    obtain ⟨hs,hid⟩:=getB_memF hg
    have tp:=(t.tx s hs).1
    obtain ⟨hw,pv,sv,dv,ab⟩:=tp.cell
    simp only [txq] at ab
    by_cases h1:s.x.step=1
    · rw [if_pos (.inl h1)] at hK
      simp only [Czj,A_,simprocAttr,ne_eq,(Uzt _).1,CHK_,Nat.reduceBEq,a0,lk,ptF,re1F,ab,h1]
      refine h0 s.O s.b pts s.x id _ _ _ tp ?_
      simp only [Czj,A_,simprocAttr,ne_eq,(Uzt _).1,CHK_,Nat.reduceBEq,lstM]
      exact ⟨_,.inl rfl,hK⟩
    · by_cases h2:s.x.step=2
      · rw [if_pos (.inr h2)] at hK
        simp only [Czj,A_,simprocAttr,ne_eq,(Uzt _).1,CHK_,Nat.reduceBEq,a0,lk,ptF,re1F,ab,h2]
        refine h0 s.O s.b pts s.x id _ _ _ tp ?_
        simp only [Czj,A_,simprocAttr,ne_eq,(Uzt _).1,CHK_,Nat.reduceBEq,lstM]
        exact ⟨_,.inl rfl,hK⟩
      · rw [if_neg (fun q=>q.elim h1 h2)] at hK
        have h1:(s.x.step=1)=False:=eq_false h1
        have h2:(s.x.step=2)=False:=eq_false h2
        simp only [Czj,A_,simprocAttr,ne_eq,(Uzt _).1,CHK_,Nat.reduceBEq,a0,lk,ptF,re1F,ab,h1,h2]
        exact ⟨_,.inr lstM_nil,hK⟩
def resQ (q:List (Int×Tx1)) (id:Int):Stp×Int×Bool:=match getQ q id with
  | none=>(⟨0,0⟩,0,false)
  | some x=>if x.step=3 then (x.st,x.err,true) else (⟨0,0⟩,0,false)
def FResS (C:CallW) (f:FuncId):Prop:=∀(h ht:Nat) (pts:List Key) (O:List Nat) (q:List (Int×Tx1)) (id:Int) S H (K:AV→St→Prop),FrA H O h ht pts q→K (.tup [.agg (stc (resQ q id).1),.s (.int .i64 (resQ q id).2.1),.s (.bool (resQ q id).2.2)]) ⟨S,H⟩→C (.fn f) [.ptr (.heap h) 0,.s (.int .i64 id)] ⟨S,H⟩ K
set_option maxHeartbeats 4000000 in
theorem front_Result_spec {C:CallW} (P:Program):∀(h ht:Nat) (pts:List Key) (O:List Nat) (q:List (Int×Tx1)) (id:Int) S H (K:AV→St→Prop),FrA H O h ht pts q→K (.tup [.agg (stc (resQ q id).1),.s (.int .i64 (resQ q id).2.1),.s (.bool (resQ q id).2.2)]) ⟨S,H⟩→runL C P Cz10 [.ptr (.heap h) 0,.s (.int .i64 id)] ⟨S,H⟩ K:=by
  rintro h ht pts O q id S H K ⟨hl,l,t,rfl⟩ hK
  have a0:=t.at0
  have lk:=fun S'=>t.look (S:=S') id
  unfold resQ at hK
  cases hg:getB FT.id l id with
  | none =>
    rw [getQ_none hg] at hK
    rw [hg] at lk
    simp only [Cz10,A_,simprocAttr,ne_eq,Uz1k.1,CHK_,Nat.reduceBEq,a0,lk,re0F]
    exact hK
  | some s =>
    rw [getQ_some hg] at hK
    rw [hg] at lk
    dsimp only at hK
    obtain ⟨hs,hid⟩:=getB_memF hg
    have tp:=(t.tx s hs).1
    obtain ⟨hw,pv,sv,dv,ab⟩:=tp.cell
    have rt:=fun S'=>rd2f (S:=S') (off:=8) (s:=s.x.st) ab rfl
    simp only [txq] at ab
    by_cases h1:s.x.step=3
    · rw [if_pos h1] at hK
      simp only [Cz10,A_,simprocAttr,ne_eq,Uz1k.1,CHK_,Nat.reduceBEq,a0,lk,ptF,re1F,ab,h1,rt]
      exact hK
    · rw [if_neg h1] at hK
      have h1:(s.x.step=3)=False:=eq_false h1
      simp only [Cz10,A_,simprocAttr,ne_eq,Uz1k.1,CHK_,Nat.reduceBEq,a0,lk,ptF,re1F,ab,h1]
      exact hK
end Go.AM
namespace Go.AM
open Go
set_option maxRecDepth 20000
def ltWk (a b:Wr):Prop:=cmpK a.key b.key < 0
open Classical in
noncomputable def sortW (ws:List Wr):List Wr:=if h:∃L:List Wr,L.Perm ws∧L.Pairwise ltWk then Classical.choose h else []
theorem sortW_eq {ws L:List Wr} (h1:L.Perm ws) (h2:L.Pairwise ltWk):sortW ws=L:=by
  have h:∃L:List Wr,L.Perm ws∧L.Pairwise ltWk:=⟨L,h1,h2⟩
  unfold sortW
  rw [dif_pos h]
  obtain ⟨a,b⟩:=Classical.choose_spec h
  refine List.Perm.eq_of_pairwise (le:=ltWk) (fun x y _ _ hxy hyx => ?_) b h2 (a.trans h1.symm)
  unfold ltWk at hxy hyx
  have:=cmp_flip x.key y.key
  exfalso
  omega
noncomputable def commitQ (pts:List Key) (q:List (Int×Tx1)) (id:Int):(List Msg×Int)×List (Int×Tx1):=match getQ q id with
  | none=>(([],4),q)
  | some x=>if x.step≠0 then (([],10),q) else if x.ws=[] then (([],0),putQ q id { x with step:=3,st:=x.snap }) else
    (let y:Tx1:={ x with step:=1,spl:=sortW x.ws,parts:=partsC pts (sortW x.ws),said:=[] }
    ((allF pts id y,0),putQ q id y))
theorem TxP.bits {H:List HObj} {O:List Nat} {b:Nat} {pts:List Key} {x:Tx1} (t:TxP H O b pts x):∃hw pv sv dv,H[b]? = some (.cells (txq x hw pv sv dv))∧MapKW H hw x.ws∧b≠hw∧b∈O∧hw∈O∧∀y:Tx1,y.ws=x.ws→y.spl=x.spl→y.parts=x.parts→y.said=x.said→TxP (H.set b (.cells (txq y hw pv sv dv))) O b pts y:=by
  rcases t with ⟨hw,t⟩ | ⟨hw,hs,hp,t⟩
  · exact ⟨_,_,_,_,t.atb,t.atw,t.n1,t.own.1,t.own.2,fun y e1 e2 e3 e4 => .inl ⟨hw,t.setb e1 e3 e4⟩⟩
  · exact ⟨_,_,_,_,t.atb,t.atw,t.n1,t.own.1,t.own.2.1,fun y e1 e2 e3 e4 => .inr ⟨hw,hs,hp,t.setb e1 e2 e3 e4⟩⟩
theorem TxV.made {H H':List HObj} {O:List Nat} {b hw hs hp:Nat} {pts:List Key} {ws:List Wr} {y:Tx1} (aw:MapKW H hw ws) (n1:b≠hw) (o1:b∈O) (o2:hw∈O) (low:∀i∈O,i < H.length) (k:KeepF H H' [b]) (ab:H'[b]? = some (.cells (txq y hw (lstI y.parts) (.row (.heap hp) 0 (pts.length + 1) (pts.length + 1)) (.map hs)))) (azz:H'[hs]? = some (.map [] 0)) (ap:H'[hp]? = some (.cells (splitC pts y.spl))) (ne:hs≠hp) (l1:H.length≤hs) (l2:H.length≤hp) (e1:y.ws=ws) (e2:y.parts=partsC pts y.spl) (e3:y.said=[]) (ls:y.spl.length≤1000∧pts.length≤1000):TxP H' (hs :: hp :: O) b pts y∧Left H H' O (hs :: hp :: O)∧∀i∈hs :: hp :: O,i < H'.length:=by
  have hb:=low b o1
  have hh:=low hw o2
  refine ⟨.inr ⟨hw,hs,hp,ab,?_,e2,ls,⟨[],0,azz,?_⟩,?_,ap,n1,by omega,by omega,by omega,by omega,ne,by simp [o1],by simp [o2],by simp,by simp⟩,⟨k.mono fun i hi => ?_,fun i hi => ?_⟩,fun i hi => ?_⟩
  · rw [e1]
    exact mapkw_keep aw k (by simpa using n1.symm)
  · rw [e3]; exact ⟨rfl,.nil,fun e h=>by cases h⟩
  · rw [e3]; exact .nil
  · have:i=b:=by simpa using hi
    exact .inl (this▸o1)
  · rcases List.mem_cons.1 hi with rfl | hi
    · exact .inr l1
    · rcases List.mem_cons.1 hi with rfl | hi
      · exact .inr l2
      · exact .inl hi
  · rcases List.mem_cons.1 hi with rfl | hi
    · exact hlt azz
    · rcases List.mem_cons.1 hi with rfl | hi
      · exact hlt ap
      · exact Nat.lt_of_lt_of_le (low i hi) k.1
def FComS (C:CallW) (f:FuncId):Prop:=∀(h ht:Nat) (pts:List Key) (O:List Nat) (q:List (Int×Tx1)) (id:Int) S H (K:AV→St→Prop),FrA H O h ht pts q→okPts pts=true→pts.length≤1000→(∀H' O',FrA H' O' h ht pts (commitQ pts q id).2→Left H H' O O'→K (.tup [lstM (commitQ pts q id).1.1,.s (.int .i64 (commitQ pts q id).1.2)]) ⟨S,H'⟩)→C (.fn f) [.ptr (.heap h) 0,.s (.int .i64 id)] ⟨S,H⟩ K
theorem lstM_nil2 {e:Int}:WkL [(AV.tup [.s .nilS,.s (.int .i64 e)]).sh] [.tup [lstM [],.s (.int .i64 e)]] := .tup (.nilS (by omega) (.same .nil)) .nil
set_option maxHeartbeats 16000000 in
theorem front_Commit_spec {C:CallW} (P:Program) {c:Nat→FuncId} (h0:FreshS C (c 0)) (h1:SoloS C (c 1)) (h2:RPartsS C (c 2)) (h3:SplitS C (c 3)) (h4:FAllS C (c 4)):∀(h ht:Nat) (pts:List Key) (O:List Nat) (q:List (Int×Tx1)) (id:Int) S H (K:AV→St→Prop),FrA H O h ht pts q→okPts pts=true→pts.length≤1000→(∀H' O',FrA H' O' h ht pts (commitQ pts q id).2→Left H H' O O'→K (.tup [lstM (commitQ pts q id).1.1,.s (.int .i64 (commitQ pts q id).1.2)]) ⟨S,H'⟩)→runL C P (Czg c) [.ptr (.heap h) 0,.s (.int .i64 id)] ⟨S,H⟩ (WkK K):=by
  rintro h ht pts O q id S H K ⟨hl,l,t,rfl⟩ hpt hpl hK
  unfold commitQ at hK
  simp only [Czg,A_,simprocAttr,ne_eq,(Uzl _).1]
  refine h0 h hl ht pts O l id _ _ _ t ?_
  cases hg:getB FT.id l id with
  | none =>
    rw [getQ_none hg] at hK
    dsimp only at hK
    simp only [freshV,Czg,A_,simprocAttr,ne_eq,(Uzl _).1]
    exact ⟨_,.inr lstM_nil2,hK H O ⟨hl,l,t,rfl⟩ .refl⟩
  | some s =>
  rw [getQ_some hg] at hK
  dsimp only at hK
  obtain ⟨hs,hid⟩:=getB_memF hg
  by_cases hst:s.x.step=0
  case neg =>
    rw [if_pos hst] at hK
    simp only [freshV,hst,Czg,A_,simprocAttr,ne_eq,(Uzl _).1]
    exact ⟨_,.inr lstM_nil2,hK H O ⟨hl,l,t,rfl⟩ .refl⟩
  rw [if_neg (fun q=>q hst)] at hK
  have tp:=(t.tx s hs).1
  have low:=t.bAt hs
  obtain ⟨hw,pv,sv,dv,ab,aw,n1,o1,o2,up⟩:=tp.bits
  have ln:=fun S'=>mapkw_len (S:=S') aw
  have rs:=fun S'=>rd2f (S:=S') (off:=0) (s:=s.x.snap) ab rfl
  have a0:=t.at0
  have ab0:=ab
  simp only [txq] at ab
  by_cases hwn:s.x.ws=[]
  · rw [if_pos hwn] at hK
    have hln:((s.x.ws.length:Nat):Int)=0:=by rw [hwn]; rfl
    have s1:=fun S'=>st1f (S:=S') (off:=3) (v := .s (.int .i64 3)) ab (by simp) rfl rfl rfl
    have b2:=hself ab (o' := .cells [.s (.int .i64 s.x.snap.t),u8 s.x.snap.n,.map hw,.s (.int .i64 3),pv,sv,dv,.s (.bool s.x.yes),.s (.int .i64 s.x.st.t),u8 s.x.st.n,.s (.int .i64 s.x.err)])
    have s2:=fun S'=>st2f (S:=S') (off:=8) (v := .s (.int .i64 s.x.snap.t)) (w:=u8 s.x.snap.n) b2 (by simp) rfl rfl
    rw [List.set_set] at s2
    have tp':=up { s.x with step:=3,st:=s.x.snap } rfl rfl rfl rfl
    obtain ⟨f1,f2⟩:=FrA.stepG t hs (.set o1) tp' (fun i hi=>by rw [List.length_set]; exact low i hi) hid
    simp only [freshV,hst,ptF,Czg,A_,simprocAttr,ne_eq,(Uzl _).1,CHK_,Nat.reduceBEq,ab,ln,hln,rs,s1,s2]
    exact ⟨_,.inr lstM_nil2,hK _ _ f1 f2⟩
  · rw [if_neg hwn] at hK
    have hln:(((s.x.ws.length:Nat):Int)=0)=False:=eq_false (by have:=List.length_pos_iff.2 hwn; omega)
    simp only [freshV,hst,ptF,Czg,A_,simprocAttr,ne_eq,(Uzl _).1,CHK_,Nat.reduceBEq,ab,ln,hln]
    refine h1 hw s.x.ws _ _ _ aw fun L G hp hsr => ?_
    have hLl:L.length≤1000:=by rw [hp.length_eq]; exact aw.len
    rw [sortW_eq hp hsr] at hK
    have tG:=t.app (G:=G)
    have tb:(H ++ G)[ht]? = some (tabA pts):=tG.tab
    have fin:∀(H':List HObj) (m p:Nat) (S':List (List AV)) (K':AV→St→Prop),KeepF (H ++ G) H' [s.b]→H'[s.b]? = some (.cells (txq { s.x with step:=1,spl:=L,parts:=partsC pts L,said:=[] } hw (lstI (partsC pts L)) (.row (.heap p) 0 (pts.length + 1) (pts.length + 1)) (.map m)))→H'[m]? = some (.map [] 0)→H'[p]? = some (.cells (splitC pts L))→m≠p→(H ++ G).length≤m→(H ++ G).length≤p→(K (.tup [lstM (allF pts id { s.x with step:=1,spl:=L,parts:=partsC pts L,said:=[] }),.s (.int .i64 0)]) ⟨S,H'⟩→K' (lstM (allF pts id { s.x with step:=1,spl:=L,parts:=partsC pts L,said:=[] })) ⟨S',H'⟩)→C (.fn (c 4)) [.ptr (.heap s.b) 0,.s (.int .i64 id)] ⟨S',H'⟩ K':=by
      intro H' m p S' K' k q1 q2 q3 q4 q5 q6 q7
      obtain ⟨w1,w2,w3⟩:=TxV.made (y:={ s.x with step:=1,spl:=L,parts:=partsC pts L,said:=[] }) (mapkw_keep (l:=[]) aw (.app (G:=G)) (by simp)) n1 o1 o2 (fun i hi=>by have:=low i hi; simp; omega) k q1 q2 q3 q4 q5 q6 rfl rfl rfl ⟨hLl,hpl⟩
      obtain ⟨f1,f2⟩:=FrA.stepG tG hs w2 w1 w3 hid
      exact h4 _ s.b pts _ id _ _ _ w1 (q7 (hK _ _ f1 ((Left.app (O:=O)).trans f2)))
    clear aw ln up tp
    have hF:∃F:List AV→List HObj,∀cs,F cs=H.set s.b (.cells cs):=⟨_,fun _=>rfl⟩
    obtain ⟨F,hF⟩:=hF
    have hbl:s.b < H.length:=hlt ab
    have hFl:∀cs,(F cs).length=H.length:=fun cs=>by rw [hF,List.length_set]
    have hFb:∀cs G',(F cs ++ G')[s.b]? = some (.cells cs):=fun cs G'=>happ (by rw [hF]; exact hself ab)
    have hFo:∀cs G' i,i≠s.b→i < H.length→(F cs ++ G')[i]? = H[i]? := fun cs G' i h1 h2=>by
      rw [List.getElem?_append_left (by rw [hFl]; exact h2),hF,List.getElem?_set_ne h1.symm]
    have hFs:∀S' cs off v G',off < cs.length→v.cells=[v]→v.fit=true→AV.under 0 v=true→storeL 1 (.ptr (.heap s.b) off) v ⟨S',F cs ++ G'⟩=some ⟨S',F (cs.set off v) ++ G'⟩:=fun S' cs off v G' a1 a2 a3 a4=>by
      rw [st1f (hFb cs G') a1 a2 a3 a4,List.set_append_left _ _ (by rw [hFl]; exact hbl),hF,hF,List.set_set]
    have hF0:H=F (txq s.x hw pv sv dv):=by rw [hF]; exact (hsetid ab0).symm
    have hbh:h≠s.b:=fun e=>((t.tx s hs).2 s.b o1).2.1 e.symm
    have hbt:ht≠s.b:=fun e=>t.nt (e▸((t.tx s hs).2 s.b o1).1)
    have a0F:∀cs G',(F cs ++ G')[h]? = some (.cells [.ptr (.heap ht) 0,.map hl]):=fun cs G'=>(hFo cs G' h hbh (hlt a0)).trans a0
    have atF:∀cs G',(F cs ++ G')[ht]? = some (tabA pts):=fun cs G'=>(hFo cs G' ht hbt (hlt t.tab)).trans t.tab
    have fin':∀(cs:List AV) (G':List HObj) (m p:Nat) (S':List (List AV)) (K':AV→St→Prop),cs=txq { s.x with step:=1,spl:=L,parts:=partsC pts L,said:=[] } hw (lstI (partsC pts L)) (.row (.heap p) 0 (pts.length + 1) (pts.length + 1)) (.map m)→(G'=[.cells (splitC pts L),.map [] 0]∧p=H.length + G.length∧m=H.length + G.length + 1∨G'=[.map [] 0,.cells (splitC pts L)]∧m=H.length + G.length∧p=H.length + G.length + 1)→(∀K2:AV,K (.tup [lstM (allF pts id { s.x with step:=1,spl:=L,parts:=partsC pts L,said:=[] }),.s (.int .i64 0)]) ⟨S,F cs ++ (G ++ G')⟩→K' (lstM (allF pts id { s.x with step:=1,spl:=L,parts:=partsC pts L,said:=[] })) ⟨S',F cs ++ (G ++ G')⟩)→C (.fn (c 4)) [.ptr (.heap s.b) 0,.s (.int .i64 id)] ⟨S',F cs ++ (G ++ G')⟩ K':=by
      intro cs G' m p S' K' e1 e2 e3
      have k:KeepF (H ++ G) (F cs ++ (G ++ G')) [s.b]:=by
        refine ⟨by simp [hFl],fun i hi hn => ?_⟩
        have hn:i≠s.b:=by simpa using hn
        by_cases q:i < H.length
        · rw [hFo _ _ _ hn q,List.getElem?_append_left q]
        · rw [List.getElem?_append_right (l₁ := F cs) (by rw [hFl]; omega),List.getElem?_append_right (l₁ := H) (by omega),hFl,List.getElem?_append_left (by simp at hi; omega)]
      have gm:∀j o,G'[j]? = some o→(F cs ++ (G ++ G'))[H.length + G.length + j]? = some o:=fun j o e=>by
        rw [List.getElem?_append_right (l₁ := F cs) (by rw [hFl]; omega),hFl,show H.length + G.length + j - H.length=G.length + j by omega,List.getElem?_append_right (l₁ := G) (by omega),Nat.add_sub_cancel_left]; exact e
      rcases e2 with ⟨e2,rfl,rfl⟩ | ⟨e2,rfl,rfl⟩
      · refine fin _ (H.length + G.length + 1) (H.length + G.length) S' K' k (by rw [hFb,e1]) (gm 1 _ (by rw [e2]; rfl)) (gm 0 _ (by rw [e2]; rfl)) (by omega) (by rw [List.length_append]; omega) (by rw [List.length_append]; omega) (e3 .undef)
      · refine fin _ (H.length + G.length) (H.length + G.length + 1) S' K' k (by rw [hFb,e1]) (gm 0 _ (by rw [e2]; rfl)) (gm 1 _ (by rw [e2]; rfl)) (by omega) (by rw [List.length_append]; omega) (by rw [List.length_append]; omega) (e3 .undef)
    clear fin
    rw [hF0]
    simp only [txq]
    repeat' (first
      | refine h2 pts L ht _ _ _ hpt (atF _ _) hpl hLl ?_
      | refine h3 pts L ht _ _ _ (by first | exact atF _ _ | exact happ (atF _ _)) hpl hLl ?_
      | (simp only [lstW,lstI,List.append_assoc,Czg,A_,simprocAttr,ne_eq,(Uzl _).1,CHK_,Nat.reduceBEq,K4_,hFb,a0F,hFl,hFs])
      | refine And.intro ?_ ?_)
    all_goals refine fin' _ _ _ _ _ _ rfl (by first | exact .inl ⟨rfl,rfl,by omega⟩ | exact .inr ⟨rfl,rfl,by omega⟩) fun _ hk => ?_
    all_goals simp only [lstM,Czg,A_,simprocAttr,ne_eq,(Uzl _).1,CHK_,Nat.reduceBEq,K4_]
    all_goals exact ⟨_,.inl rfl,hk⟩
end Go.AM
namespace Go.AM
open Go
set_option maxRecDepth 20000
theorem boxF {H : List HObj} {b : Nat} {cs0 : List AV} (ab : H[b]? = some (.cells cs0)) : ∃ F : List AV → List HObj, (∀ cs, F cs = H.set b (.cells cs)) ∧ H = F cs0 ∧ (∀ cs, (F cs).length = H.length) ∧ (∀ cs, (F cs)[b]? = some (.cells cs)) ∧ (∀ cs G', (F cs ++ G')[b]? = some (.cells cs)) ∧
    (∀cs i,i≠b→(F cs)[i]? = H[i]?) ∧
    (∀S' cs off v,off < cs.length→v.cells=[v]→v.fit=true→AV.under 0 v=true→storeL 1 (.ptr (.heap b) off) v ⟨S',F cs⟩=some ⟨S',F (cs.set off v)⟩) ∧
    (∀S' cs off v G',off < cs.length→v.cells=[v]→v.fit=true→AV.under 0 v=true→storeL 1 (.ptr (.heap b) off) v ⟨S',F cs ++ G'⟩=some ⟨S',F (cs.set off v) ++ G'⟩) ∧
    (∀S' cs off v w,off + 2≤cs.length→AV.under 0 v=true→AV.under 0 w=true→storeL 2 (.ptr (.heap b) off) (.agg [v,w]) ⟨S',F cs⟩=some ⟨S',F (cs.take off ++ [v,w] ++ cs.drop (off + 2))⟩) ∧
    (∀S' cs off v w G',off + 2≤cs.length→AV.under 0 v=true→AV.under 0 w=true→storeL 2 (.ptr (.heap b) off) (.agg [v,w]) ⟨S',F cs ++ G'⟩=some ⟨S',F (cs.take off ++ [v,w] ++ cs.drop (off + 2)) ++ G'⟩):=by
  have hbl:b < H.length:=hlt ab
  have f1:∀cs,(H.set b (.cells cs)).length=H.length:=fun cs=>List.length_set
  have f2:∀cs,(H.set b (.cells cs))[b]? = some (.cells cs):=fun cs=>hself ab
  have f3:∀cs G',(H.set b (.cells cs) ++ G')[b]? = some (.cells cs):=fun cs G'=>happ (f2 cs)
  refine ⟨fun cs=>H.set b (.cells cs),fun _=>rfl,(hsetid ab).symm,f1,f2,f3,fun cs i h=>List.getElem?_set_ne h.symm,?_,?_,?_,?_⟩
  · intro S' cs off v a1 a2 a3 a4
    rw [st1f (f2 cs) a1 a2 a3 a4,List.set_set]
  · intro S' cs off v G' a1 a2 a3 a4
    rw [st1f (f3 cs G') a1 a2 a3 a4,List.set_append_left _ _ (by rw [f1]; exact hbl),List.set_set]
  · intro S' cs off v w a1 a2 a3
    rw [st2f (f2 cs) a1 a2 a3,List.set_set]
  · intro S' cs off v w G' a1 a2 a3
    rw [st2f (f3 cs G') a1 a2 a3,List.set_append_left _ _ (by rw [f1]; exact hbl),List.set_set]
def decF (x:Tx1) (yes:Bool):Tx1:={ x with step:=2,yes:=yes,said:=[],st:=if yes=true then x.st else ⟨0,0⟩ }
def DecFS (C:CallW) (f:FuncId):Prop:=∀(O:List Nat) (b hw hs hp:Nat) (pts:List Key) (x:Tx1) (id:Int) (yes:Bool) S H (K:AV→St→Prop),TxV H O b hw hs hp pts x→(∀i∈O,i < H.length)→(∀H' O',TxP H' O' b pts (decF x yes)→Left H H' O O'→(∀i∈O',i < H'.length)→K (lstM (allF pts id (decF x yes))) ⟨S,H'⟩)→C (.fn f) [.ptr (.heap b) 0,.s (.int .i64 id),.s (.bool yes)] ⟨S,H⟩ K
set_option maxHeartbeats 8000000 in
theorem txn_decide_spec {C:CallW} (P:Program) {c:Nat→FuncId} (h0:FAllS C (c 0)):∀(O:List Nat) (b hw hs hp:Nat) (pts:List Key) (x:Tx1) (id:Int) (yes:Bool) S H (K:AV→St→Prop),TxV H O b hw hs hp pts x→(∀i∈O,i < H.length)→(∀H' O',TxP H' O' b pts (decF x yes)→Left H H' O O'→(∀i∈O',i < H'.length)→K (lstM (allF pts id (decF x yes))) ⟨S,H'⟩)→runL C P (Czx c) [.ptr (.heap b) 0,.s (.int .i64 id),.s (.bool yes)] ⟨S,H⟩ (WkK K):=by
  intro O b hw hs hp pts x id yes S H K t low hK
  have ab:=t.atb
  have tf:=t.fresh (y:=decF x yes) low rfl rfl rfl rfl
  have o1:=t.own.1
  have hbl:=low b o1
  have lf:Left H ((H ++ [HObj.map [] 0]).set b (.cells (txq (decF x yes) hw (lstI x.parts) (.row (.heap hp) 0 (pts.length + 1) (pts.length + 1)) (.map H.length)))) O (H.length :: O):=by
    refine ⟨⟨by simp,fun i hi hn => ?_⟩,fun i hi => ?_⟩
    · rw [List.getElem?_set_ne (fun q:b=i=>hn (q▸o1)),List.getElem?_append_left hi]
    · rcases List.mem_cons.1 hi with rfl | hi
      · exact .inr (Nat.le_refl _)
      · exact .inl hi
  have lw:∀i∈H.length :: O,i < ((H ++ [HObj.map [] 0]).set b (.cells (txq (decF x yes) hw (lstI x.parts) (.row (.heap hp) 0 (pts.length + 1) (pts.length + 1)) (.map H.length)))).length:=by
    intro i hi
    rw [List.length_set,List.length_append]
    rcases List.mem_cons.1 hi with rfl | hi
    · simp
    · have:=low i hi; omega
  have hK:=hK _ _ (.inr ⟨hw,_,hp,tf⟩) lf lw
  have tp:TxP _ _ b pts (decF x yes) := .inr ⟨hw,_,hp,tf⟩
  rw [List.set_append_left _ _ hbl] at hK tp
  obtain ⟨F,hF,hF0,hFl,hFb,hFa,hFo,s1,s1a,s2,s2a⟩:=boxF ab
  rw [←hF] at hK tp
  clear lf lw tf
  rw [hF0]
  simp only [txq,lstI] at hK tp
  cases yes with
  | true =>
    simp only [decF,if_true] at hK tp
    simp only [txq,lstI,Czx,A_,simprocAttr,ne_eq,(Uz1g _).1,CHK_,Nat.reduceBEq,K4_,hFl,hFb,hFa,s1a,s2a]
    refine h0 _ b pts _ id _ _ _ tp ?_
    simp only [lstM,Czx,A_,simprocAttr,ne_eq,(Uz1g _).1,CHK_,Nat.reduceBEq,K4_]
    exact ⟨_,.inl rfl,hK⟩
  | false =>
    simp only [decF,if_false,Bool.false_eq_true] at hK tp
    simp only [txq,lstI,Czx,A_,simprocAttr,ne_eq,(Uz1g _).1,CHK_,Nat.reduceBEq,K4_,hFl,hFb,hFa,s1a,s2a]
    refine h0 _ b pts _ id _ _ _ tp ?_
    simp only [lstM,Czx,A_,simprocAttr,ne_eq,(Uz1g _).1,CHK_,Nat.reduceBEq,K4_]
    exact ⟨_,.inl rfl,hK⟩
end Go.AM
namespace Go.AM
open Go
set_option maxRecDepth 20000
def noV (x:Tx1) (m:Msg):Prop:=m.yes=false∨goodS m.stp=false∨cmpS m.stp x.snap≤0
instance {x:Tx1} {m:Msg}:Decidable (noV x m):=by unfold noV; infer_instance
def votN (x:Tx1) (m:Msg):Tx1:={ x with said:=x.said ++ [m.frm],err:=if m.err≤0 then 9 else m.err }
def votY (x:Tx1) (m:Msg):Tx1:={ x with said:=x.said ++ [m.frm],st:=maxS x.st m.stp }
def voteF (pts:List Key) (x:Tx1) (m:Msg):Tx1×List Msg :=
  if noV x m then (decF (votN x m) false,allF pts m.id (decF (votN x m) false)) else
  if x.said.length + 1 < x.parts.length then (votY x m,[]) else (decF (votY x m) true,allF pts m.id (decF (votY x m) true))
def VotFS (C:CallW) (f:FuncId):Prop:=∀(O:List Nat) (b hw hs hp:Nat) (pts:List Key) (x:Tx1) (m:Msg) S H (K:AV→St→Prop),TxV H O b hw hs hp pts x→(∀i∈O,i < H.length)→m.frm∉x.said→(∀H' O',TxP H' O' b pts (voteF pts x m).1→Left H H' O O'→(∀i∈O',i < H'.length)→K (lstM (voteF pts x m).2) ⟨S,H'⟩)→C (.fn f) [.ptr (.heap b) 0,.agg (msc m)] ⟨S,H⟩ K
set_option maxHeartbeats 16000000 in
theorem txn_vote_spec {C:CallW} (P:Program) {c:Nat→FuncId} (h0:∀s:Stp,FnS C (c 0) [.agg (stc s)] (.bool (goodS s))) (h1:CmpSS C (c 1)) (h2:DecFS C (c 2)) (h3:MaxS C (c 3)):∀(O:List Nat) (b hw hs hp:Nat) (pts:List Key) (x:Tx1) (m:Msg) S H (K:AV→St→Prop),TxV H O b hw hs hp pts x→(∀i∈O,i < H.length)→m.frm∉x.said→(∀H' O',TxP H' O' b pts (voteF pts x m).1→Left H H' O O'→(∀i∈O',i < H'.length)→K (lstM (voteF pts x m).2) ⟨S,H'⟩)→runL C P (Cz2 c) [.ptr (.heap b) 0,.agg (msc m)] ⟨S,H⟩ (WkK K):=by
  intro O b hw hs hp pts x m S H K t low hns hK
  obtain ⟨es,c0,a1,g⟩:=t.ats
  have hnew:∀y∈x.said,y≠m.frm:=fun y hy e=>hns (e▸hy)
  have u:=fun S'=>map_new keyK_int (S:=S') (k:=m.frm) (v := .s (.bool true)) a1 g.rel hnew rfl
  have t1:=t.sets (g.new (x:=m.frm)) (by
    rw [List.nodup_append]
    exact ⟨t.nd,by simp,fun p hp q hq=>by rw [List.mem_singleton.1 hq]; exact hnew p hp⟩)
  have u:∀S',updateL (.one (.int .i64)) (.map hs) (.s (.int .i64 m.frm)) (.s (.bool true)) ⟨S',H⟩=some ⟨S',H.set hs (.map (es ++ [⟨iA m.frm,tF m.frm,c0⟩]) (c0 + 1))⟩:=u
  have lf1:Left H (H.set hs (.map (es ++ [⟨iA m.frm,tF m.frm,c0⟩]) (c0 + 1))) O O := .set t.own.2.2.1
  have low1:∀i∈O,i < (H.set hs (.map (es ++ [⟨iA m.frm,tF m.frm,c0⟩]) (c0 + 1))).length:=fun i hi=>by rw [List.length_set]; exact low i hi
  have ab:=t.atb
  have ab1:=t1.atb
  generalize H.set hs (.map (es ++ [⟨iA m.frm,tF m.frm,c0⟩]) (c0 + 1))=H1 at u t1 lf1 low1 ab1
  obtain ⟨F,hF,hF0,hFl,hFb,hFa,hFo,s1,s1a,s2,s2a⟩:=boxF ab1
  have rs:=fun S'=>rd2f (S:=S') (off:=0) (s:=x.snap) ab1 rfl
  have rt:=fun S'=>rd2f (S:=S') (off:=8) (s:=x.st) ab1 rfl
  have o1:=t.own.1
  have tN:=t1.setb (y:=votN x m) rfl rfl rfl rfl
  have tY:=t1.setb (y:=votY x m) rfl rfl rfl rfl
  rw [←hF] at tN tY
  have lfF:∀cs,Left H (F cs) O O:=fun cs=>by rw [hF]; exact lf1.trans (.set o1)
  have lowF:∀cs,∀i∈O,i < (F cs).length:=fun cs i hi=>by rw [hFl]; exact low1 i hi
  simp only [txq] at ab ab1 hF0
  unfold voteF at hK
  have goN:∀S' K',noV x m→(∀H',K (lstM (allF pts m.id (decF (votN x m) false))) ⟨S,H'⟩→K' (lstM (allF pts m.id (decF (votN x m) false))) ⟨S',H'⟩)→C (.fn (c 2)) [.ptr (.heap b) 0,.s (.int .i64 m.id),.s (.bool false)] ⟨S',F (txq (votN x m) hw (lstI x.parts) (.row (.heap hp) 0 (pts.length + 1) (pts.length + 1)) (.map hs))⟩ K':=by
    intro S' K' q hk
    rw [if_pos q] at hK
    exact h2 O b hw hs hp pts _ m.id false _ _ _ tN (lowF _) fun H' O' w1 w2 w3=>hk _ (hK H' O' w1 ((lfF _).trans w2) w3)
  have goY:∀S' K',¬noV x m→¬(x.said.length + 1 < x.parts.length)→(∀H',K (lstM (allF pts m.id (decF (votY x m) true))) ⟨S,H'⟩→K' (lstM (allF pts m.id (decF (votY x m) true))) ⟨S',H'⟩)→C (.fn (c 2)) [.ptr (.heap b) 0,.s (.int .i64 m.id),.s (.bool true)] ⟨S',F (txq (votY x m) hw (lstI x.parts) (.row (.heap hp) 0 (pts.length + 1) (pts.length + 1)) (.map hs))⟩ K':=by
    intro S' K' q q2 hk
    rw [if_neg q,if_neg q2] at hK
    exact h2 O b hw hs hp pts _ m.id true _ _ _ tY (lowF _) fun H' O' w1 w2 w3=>hk _ (hK H' O' w1 ((lfF _).trans w2) w3)
  have goW:¬noV x m→x.said.length + 1 < x.parts.length→K (lstM []) ⟨S,F (txq (votY x m) hw (lstI x.parts) (.row (.heap hp) 0 (pts.length + 1) (pts.length + 1)) (.map hs))⟩:=by
    intro q q2
    rw [if_neg q,if_pos q2] at hK
    exact hK _ O (.inr ⟨hw,hs,hp,tY⟩) (lfF _) (lowF _)
  have hpl:(x.parts.map fun (n:Nat)=>AV.i n).length=x.parts.length:=List.length_map ..
  have lns:=fun S'=>len_f (S:=S') (H:=F (txq (votY x m) hw (lstI x.parts) (.row (.heap hp) 0 (pts.length + 1) (pts.length + 1)) (.map hs))) tY.ats
  rw [hF0] at u rs rt
  clear hK lf1 low1 ab1 tN tY t1 lfF lowF
  simp only [txq,votN,votY,lstI] at goN goY goW lns
  simp only [msc,Cz2,A_,simprocAttr,ne_eq,(Uz3 _).1,CHK_,Nat.reduceBEq,K4_,KG_,fillL,List.append_assoc,ab,u]
  by_cases hy:m.yes=true
  case neg =>
    have hy:m.yes=false:=by simpa using hy
    have hno:noV x m := .inl hy
    by_cases he:m.err≤0
    · rw [if_pos he] at goN
      simp only [msc,Cz2,A_,simprocAttr,ne_eq,(Uz3 _).1,CHK_,Nat.reduceBEq,K4_,KG_,fillL,List.append_assoc,hy,hFb,s1,he]
      refine goN _ _ hno fun H' hk => ?_
      simp only [lstM,Cz2,A_,simprocAttr,ne_eq,(Uz3 _).1,CHK_,Nat.reduceBEq,K4_]
      exact ⟨_,.inl rfl,hk⟩
    · rw [if_neg he] at goN
      simp only [msc,Cz2,A_,simprocAttr,ne_eq,(Uz3 _).1,CHK_,Nat.reduceBEq,K4_,KG_,fillL,List.append_assoc,hy,hFb,s1,he]
      refine goN _ _ hno fun H' hk => ?_
      simp only [lstM,Cz2,A_,simprocAttr,ne_eq,(Uz3 _).1,CHK_,Nat.reduceBEq,K4_]
      exact ⟨_,.inl rfl,hk⟩
  simp only [msc,Cz2,A_,simprocAttr,ne_eq,(Uz3 _).1,CHK_,Nat.reduceBEq,K4_,KG_,fillL,List.append_assoc,hy,hFb,s1,rs,rt]
  refine h0 m.stp _ _ _ ?_
  cases hg:goodS m.stp with
  | false =>
    have hno:noV x m := .inr (.inl hg)
    by_cases he:m.err≤0
    · rw [if_pos he] at goN
      simp only [msc,Cz2,A_,simprocAttr,ne_eq,(Uz3 _).1,CHK_,Nat.reduceBEq,K4_,KG_,fillL,List.append_assoc,hy,hFb,s1,he]
      refine goN _ _ hno fun H' hk => ?_
      simp only [lstM,Cz2,A_,simprocAttr,ne_eq,(Uz3 _).1,CHK_,Nat.reduceBEq,K4_]
      exact ⟨_,.inl rfl,hk⟩
    · rw [if_neg he] at goN
      simp only [msc,Cz2,A_,simprocAttr,ne_eq,(Uz3 _).1,CHK_,Nat.reduceBEq,K4_,KG_,fillL,List.append_assoc,hy,hFb,s1,he]
      refine goN _ _ hno fun H' hk => ?_
      simp only [lstM,Cz2,A_,simprocAttr,ne_eq,(Uz3 _).1,CHK_,Nat.reduceBEq,K4_]
      exact ⟨_,.inl rfl,hk⟩
  | true =>
  simp only [msc,Cz2,A_,simprocAttr,ne_eq,(Uz3 _).1,CHK_,Nat.reduceBEq,K4_,KG_,fillL,List.append_assoc,hy,hFb,s1,rs,rt]
  refine h1 m.stp x.snap _ _ _ ?_
  by_cases hc:cmpS m.stp x.snap≤0
  · have hno:noV x m := .inr (.inr hc)
    by_cases he:m.err≤0
    · rw [if_pos he] at goN
      simp only [msc,Cz2,A_,simprocAttr,ne_eq,(Uz3 _).1,CHK_,Nat.reduceBEq,K4_,KG_,fillL,List.append_assoc,hy,hFb,s1,he,hc,rs,rt]
      refine goN _ _ hno fun H' hk => ?_
      simp only [lstM,Cz2,A_,simprocAttr,ne_eq,(Uz3 _).1,CHK_,Nat.reduceBEq,K4_]
      exact ⟨_,.inl rfl,hk⟩
    · rw [if_neg he] at goN
      simp only [msc,Cz2,A_,simprocAttr,ne_eq,(Uz3 _).1,CHK_,Nat.reduceBEq,K4_,KG_,fillL,List.append_assoc,hy,hFb,s1,he,hc,rs,rt]
      refine goN _ _ hno fun H' hk => ?_
      simp only [lstM,Cz2,A_,simprocAttr,ne_eq,(Uz3 _).1,CHK_,Nat.reduceBEq,K4_]
      exact ⟨_,.inl rfl,hk⟩
  have hno:¬noV x m:=fun q=>by
    rcases q with q | q | q
    · rw [hy] at q; cases q
    · rw [hg] at q; cases q
    · exact hc q
  simp only [msc,Cz2,A_,simprocAttr,ne_eq,(Uz3 _).1,CHK_,Nat.reduceBEq,K4_,KG_,fillL,List.append_assoc,hy,hFb,s1,hc,rs,rt]
  refine h3 x.st m.stp _ _ _ ?_
  by_cases hlen:x.said.length + 1 < x.parts.length
  · have hl1:(((x.said.length + 1:Nat):Int) < (x.parts.length:Int))=True:=eq_true (by omega)
    have hl2:((x.said.length:Int) + 1 < (x.parts.length:Int))=True:=eq_true (by omega)
    simp only [msc,stc,lstI,Cz2,A_,simprocAttr,ne_eq,(Uz3 _).1,CHK_,Nat.reduceBEq,K4_,KG_,fillL,List.append_assoc,hy,hFb,s2,hc,rs,rt,lns,hl1,hl2,List.length_append,hpl]
    exact ⟨_,.inr lstM_nil,goW hno hlen⟩
  · have hl1:(((x.said.length + 1:Nat):Int) < (x.parts.length:Int))=False:=eq_false (by omega)
    have hl2:((x.said.length:Int) + 1 < (x.parts.length:Int))=False:=eq_false (by omega)
    simp only [msc,stc,lstI,Cz2,A_,simprocAttr,ne_eq,(Uz3 _).1,CHK_,Nat.reduceBEq,K4_,KG_,fillL,List.append_assoc,hy,hFb,s2,hc,rs,rt,lns,hl1,hl2,List.length_append,hpl]
    refine goY _ _ hno hlen fun H' hk => ?_
    simp only [lstM,Cz2,A_,simprocAttr,ne_eq,(Uz3 _).1,CHK_,Nat.reduceBEq,K4_]
    exact ⟨_,.inl rfl,hk⟩
end Go.AM
namespace Go.AM
open Go
set_option maxRecDepth 20000
def tookX (pts:List Key) (x:Tx1) (m:Msg):Option (Tx1×List Msg) :=
  if m.frm∉x.parts.map (fun n:Nat=>(n:Int)) then none else if m.frm∈x.said then none else
  if m.kind=6∧x.step=1 then some (voteF pts x m) else
  if m.kind=9∧x.step=2 then some ({ x with said:=x.said ++ [m.frm],step:=if x.said.length + 1=x.parts.length then 3 else x.step },[]) else none
def tookQ (pts:List Key) (q:List (Int×Tx1)) (m:Msg):List Msg×List (Int×Tx1):=match getQ q m.id with
  | none=>([],q)
  | some x=>match tookX pts x m with
    | none=>([],q)
    | some (y,l)=>(l,putQ q m.id y)
theorem lstI_N (l:List Nat):lstI l = .list .sh 1 ((l.map fun n:Nat=>(n:Int)).map pI):=by
  unfold lstI
  rw [List.map_map]; rfl
def FTkS (C:CallW) (f:FuncId):Prop:=∀(h ht:Nat) (pts:List Key) (O:List Nat) (q:List (Int×Tx1)) (m:Msg) S H (K:AV→St→Prop),FrA H O h ht pts q→(∀H' O',FrA H' O' h ht pts (tookQ pts q m).2→Left H H' O O'→K (lstM (tookQ pts q m).1) ⟨S,H'⟩)→C (.fn f) [.ptr (.heap h) 0,.agg (msc m)] ⟨S,H⟩ K
set_option maxHeartbeats 16000000 in
theorem front_Took_spec {C:CallW} (hW:WkC C) (P:Program) {c:Nat→FuncId} (h0:ContIS C (c 0)) (h1:VotFS C (c 1)):∀(h ht:Nat) (pts:List Key) (O:List Nat) (q:List (Int×Tx1)) (m:Msg) S H (K:AV→St→Prop),FrA H O h ht pts q→(∀H' O',FrA H' O' h ht pts (tookQ pts q m).2→Left H H' O O'→K (lstM (tookQ pts q m).1) ⟨S,H'⟩)→runL C P (Cz6 c) [.ptr (.heap h) 0,.agg (msc m)] ⟨S,H⟩ (WkK K):=by
  rintro h ht pts O q m S H K ⟨hl,l,t,rfl⟩ hK
  have a0:=t.at0
  have lk:=fun S'=>t.look (S:=S') m.id
  unfold tookQ at hK
  have h1m:=fun O b hw hs hp pts x=>h1 O b hw hs hp pts x m
  unfold msc at h1m
  simp only [List.cons_append,List.nil_append] at h1m
  cases hg:getB FT.id l m.id with
  | none =>
    rw [getQ_none hg] at hK
    dsimp only at hK
    rw [hg] at lk
    simp only [msc,Cz6,A_,simprocAttr,ne_eq,(Uza _).1,CHK_,Nat.reduceBEq,K4_,KG_,fillL,List.append_assoc,a0,lk,re0F]
    exact ⟨_,.inr lstM_nil,hK H O ⟨hl,l,t,rfl⟩ .refl⟩
  | some s =>
  rw [getQ_some hg] at hK
  dsimp only at hK
  rw [hg] at lk
  obtain ⟨hs,hid⟩:=getB_memF hg
  have low:=t.bAt hs
  have same:tookX pts s.x m=none→K (lstM []) ⟨S,H⟩:=fun e=>by
    rw [e] at hK
    exact hK H O ⟨hl,l,t,rfl⟩ .refl
  rcases (t.tx s hs).1 with ⟨hw,tt⟩ | ⟨hw,hsm,hp,tt⟩
  · have ab:=tt.atb
    simp only [txq] at ab
    simp only [msc,Cz6,A_,simprocAttr,ne_eq,(Uza _).1,CHK_,Nat.reduceBEq,K4_,KG_,fillL,List.append_assoc,a0,lk,ptF,re1F,ab]
    refine hW _ _ _ _ _ (WkF.nilS (sz:=1) (by omega) (.same .nil)) (h0 [] m.frm _ _ _ (by simp) ?_)
    have:decide (m.frm∈([]:List Int))=false:=rfl
    rw [this]
    simp only [msc,Cz6,A_,simprocAttr,ne_eq,(Uza _).1,CHK_,Nat.reduceBEq,K4_,KG_,fillL,List.append_assoc,a0,lk,ptF,re1F,ab]
    exact ⟨_,.inr lstM_nil,same (by unfold tookX; rw [tt.np]; rfl)⟩
  have ab:=tt.atb
  rw [lstI_N] at ab
  simp only [txq] at ab
  have p2:s.x.parts.length≤pts.length + 1:=by rw [tt.np]; exact partsC_len
  have ls:=tt.ls.2
  have lk2:=fun S'=>look_f (S:=S') tt.ats m.frm
  simp only [msc,Cz6,A_,simprocAttr,ne_eq,(Uza _).1,CHK_,Nat.reduceBEq,K4_,KG_,fillL,List.append_assoc,a0,lk,ptF,re1F,ab]
  refine h0 (s.x.parts.map fun n:Nat=>(n:Int)) m.frm _ _ _ (by rw [List.length_map]; omega) ?_
  by_cases c1:m.frm∈s.x.parts.map fun n:Nat=>(n:Int)
  case neg =>
    rw [decide_eq_false c1]
    simp only [msc,Cz6,A_,simprocAttr,ne_eq,(Uza _).1,CHK_,Nat.reduceBEq,K4_,KG_,fillL,List.append_assoc,a0,lk,ptF,re1F,ab]
    exact ⟨_,.inr lstM_nil,same (by unfold tookX; rw [if_pos c1])⟩
  rw [decide_eq_true c1]
  by_cases c2:m.frm∈s.x.said
  · rw [decide_eq_true c2] at lk2
    simp only [msc,Cz6,A_,simprocAttr,ne_eq,(Uza _).1,CHK_,Nat.reduceBEq,K4_,KG_,fillL,List.append_assoc,a0,lk,lk2,ptF,re1F,ab]
    exact ⟨_,.inr lstM_nil,same (by unfold tookX; rw [if_neg (fun q=>q c1),if_pos c2])⟩
  rw [decide_eq_false c2] at lk2
  have tx0:tookX pts s.x m=if m.kind=6∧s.x.step=1 then some (voteF pts s.x m) else if m.kind=9∧s.x.step=2 then some ({ s.x with said:=s.x.said ++ [m.frm],step:=if s.x.said.length + 1=s.x.parts.length then 3 else s.x.step },[]) else none:=by
    unfold tookX; rw [if_neg (fun q=>q c1),if_neg c2]
  by_cases c3:m.kind=6∧s.x.step=1
  · rw [if_pos c3] at tx0
    rw [tx0] at hK
    dsimp only at hK
    have k6:(m.kind=6)=True:=eq_true c3.1
    have k1:(s.x.step=1)=True:=eq_true c3.2
    simp only [msc,Cz6,A_,simprocAttr,ne_eq,(Uza _).1,CHK_,Nat.reduceBEq,K4_,KG_,fillL,List.append_assoc,a0,lk,lk2,ptF,re1F,ab,k6,k1]
    refine h1m s.O s.b hw hsm hp pts s.x _ _ _ tt low c2 fun H' O' w1 w2 w3 => ?_
    obtain ⟨f1,f2⟩:=FrA.stepG t hs w2 w1 w3 hid
    simp only [lstM,msc,Cz6,A_,simprocAttr,ne_eq,(Uza _).1,CHK_,Nat.reduceBEq,K4_]
    exact ⟨_,.inl rfl,hK H' _ f1 f2⟩
  rw [if_neg c3] at tx0
  by_cases c4:m.kind=9∧s.x.step=2
  case neg =>
    rw [if_neg c4] at tx0
    have hK:=same tx0
    by_cases k6:m.kind=6
    · have k1:(s.x.step=1)=False:=eq_false fun e=>c3 ⟨k6,e⟩
      simp only [msc,Cz6,A_,simprocAttr,ne_eq,(Uza _).1,CHK_,Nat.reduceBEq,K4_,KG_,fillL,List.append_assoc,a0,lk,lk2,ptF,re1F,ab,k6,k1]
      exact ⟨_,.inr lstM_nil,hK⟩
    · have k6:(m.kind=6)=False:=eq_false k6
      by_cases k9:m.kind=9
      · have k2:(s.x.step=2)=False:=eq_false fun e=>c4 ⟨k9,e⟩
        simp only [msc,Cz6,A_,simprocAttr,ne_eq,(Uza _).1,CHK_,Nat.reduceBEq,K4_,KG_,fillL,List.append_assoc,a0,lk,lk2,ptF,re1F,ab,k9,k2]
        exact ⟨_,.inr lstM_nil,hK⟩
      · have k9:(m.kind=9)=False:=eq_false k9
        simp only [msc,Cz6,A_,simprocAttr,ne_eq,(Uza _).1,CHK_,Nat.reduceBEq,K4_,KG_,fillL,List.append_assoc,a0,lk,lk2,ptF,re1F,ab,k6,k9]
        exact ⟨_,.inr lstM_nil,hK⟩
  rw [if_pos c4] at tx0
  rw [tx0] at hK
  dsimp only at hK
  obtain ⟨es,c0,a1,g⟩:=tt.ats
  have hnew:∀y∈s.x.said,y≠m.frm:=fun y hy e=>c2 (e▸hy)
  have u:=fun S'=>map_new keyK_int (S:=S') (k:=m.frm) (v := .s (.bool true)) a1 g.rel hnew rfl
  have t1:=tt.sets (g.new (x:=m.frm)) (by
    rw [List.nodup_append]
    exact ⟨tt.nd,by simp,fun p hp q hq=>by rw [List.mem_singleton.1 hq]; exact hnew p hp⟩)
  have u:∀S',updateL (.one (.int .i64)) (.map hsm) (.s (.int .i64 m.frm)) (.s (.bool true)) ⟨S',H⟩=some ⟨S',H.set hsm (.map (es ++ [⟨iA m.frm,tF m.frm,c0⟩]) (c0 + 1))⟩:=u
  have lf1:Left H (H.set hsm (.map (es ++ [⟨iA m.frm,tF m.frm,c0⟩]) (c0 + 1))) s.O s.O := .set tt.own.2.2.1
  have low1:∀i∈s.O,i < (H.set hsm (.map (es ++ [⟨iA m.frm,tF m.frm,c0⟩]) (c0 + 1))).length:=fun i hi=>by rw [List.length_set]; exact low i hi
  have ab1:=t1.atb
  rw [show lstI ({ s.x with said:=s.x.said ++ [m.frm] }:Tx1).parts = .list .sh 1 ((s.x.parts.map fun n:Nat=>(n:Int)).map pI) from lstI_N _] at ab1
  generalize H.set hsm (.map (es ++ [⟨iA m.frm,tF m.frm,c0⟩]) (c0 + 1))=H1 at u t1 lf1 low1 ab1
  have lns:=fun S'=>len_f (S:=S') (H:=H1) t1.ats
  have s3:=fun S'=>st1f (S:=S') (off:=3) (v := .s (.int .i64 3)) ab1 (by simp [txq]) rfl rfl rfl
  simp only [txq,List.set_cons_succ,List.set_cons_zero] at ab1 s3
  have k6:(m.kind=6)=False:=eq_false fun e=>by have:=c4.1; omega
  have k9:(m.kind=9)=True:=eq_true c4.1
  have k2:s.x.step=2:=c4.2
  by_cases hlen:s.x.said.length + 1=s.x.parts.length
  · rw [if_pos hlen] at hK
    have t2:=t1.setb (y:={ s.x with said:=s.x.said ++ [m.frm],step:=3 }) rfl rfl rfl rfl
    obtain ⟨f1,f2⟩:=FrA.stepG t hs (lf1.trans (.set tt.own.1)) (.inr ⟨hw,hsm,hp,t2⟩) (fun i hi=>by rw [List.length_set]; exact low1 i hi) hid
    have hK:=hK _ _ f1 f2
    simp only [txq,lstI_N] at hK
    have hl1:(((s.x.said.length + 1:Nat):Int)=(s.x.parts.length:Int))=True:=eq_true (by omega)
    have hl2:((s.x.said.length:Int) + 1=(s.x.parts.length:Int))=True:=eq_true (by omega)
    simp only [msc,Cz6,A_,simprocAttr,ne_eq,(Uza _).1,CHK_,Nat.reduceBEq,K4_,KG_,fillL,List.append_assoc,a0,lk,lk2,ptF,re1F,ab,k6,c4.1,k2,u,ab1,lns,List.length_append,List.length_map,hl1,hl2,s3]
    exact ⟨_,.inr lstM_nil,hK⟩
  · rw [if_neg hlen] at hK
    obtain ⟨f1,f2⟩:=FrA.stepG t hs lf1 (.inr ⟨hw,hsm,hp,t1⟩) low1 hid
    have hK:=hK _ _ f1 f2
    have hl1:(((s.x.said.length + 1:Nat):Int)=(s.x.parts.length:Int))=False:=eq_false (by omega)
    have hl2:((s.x.said.length:Int) + 1=(s.x.parts.length:Int))=False:=eq_false (by omega)
    simp only [msc,Cz6,A_,simprocAttr,ne_eq,(Uza _).1,CHK_,Nat.reduceBEq,K4_,KG_,fillL,List.append_assoc,a0,lk,lk2,ptF,re1F,ab,k6,c4.1,k2,u,ab1,lns,List.length_append,List.length_map,hl1,hl2]
    exact ⟨_,.inr lstM_nil,hK⟩
end Go.AM
namespace Go.AM
open Go
set_option maxRecDepth 20000
theorem ixl_m {l:List Msg} {i:Nat} {k:IntKind} (h:i < l.length):indexAddrL (.sl 45) (.list .sh 45 (l.map mA)) (.s (.int k (i:Int)))=some (.rop (msc l[i])):=ixl_map h (by omega)
theorem ixl_m0 {l:List Msg} {k:IntKind} (h:0 < l.length):indexAddrL (.sl 45) (.list .sh 45 (l.map mA)) (.s (.int k 0))=some (.rop (msc l[0])):=ixl_m (i:=0) h
def awW25:Wr:=⟨padK [97],[120],false⟩
def awX25:Tx1:={ tx0 ⟨3,0⟩ with ws:=[awW25] }
def awM25:Msg:={ msg0 1 0 with kind:=5,stp:=⟨3,0⟩,writes:=[awW25] }
theorem sortW_one {w:Wr}:sortW [w]=[w]:=sortW_eq (.refl _) (List.pairwise_singleton _ _)
theorem aw25_com:(commitQ [padK [109]] [(1,awX25)] 1).1=([awM25],0):=by
  unfold commitQ
  have e:getQ [((1:Int),awX25)] 1=some awX25:=rfl
  rw [e]
  dsimp only
  rw [if_neg (by decide),if_neg (by decide),show awX25.ws=[awW25] from rfl,sortW_one]
  decide
theorem aw25_beg:beginQ [] 1 ⟨3,0⟩=(0,[(1,tx0 ⟨3,0⟩)]):=by
  unfold beginQ
  rw [if_neg (by decide),if_neg (by decide)]; rfl
theorem aw25_put:fputQ [(1,tx0 ⟨3,0⟩)] 1 awW25=(0,[(1,awX25)]):=by
  unfold fputQ
  have e:getQ [((1:Int),tx0 ⟨3,0⟩)] 1=some (tx0 ⟨3,0⟩):=rfl
  rw [e]
  dsimp only
  rw [if_neg (by decide),if_neg (by decide),if_neg (by decide)]; rfl
def AwFS (C:CallW) (f:FuncId):Prop:=∀S H (K:AV→St→Prop),(∀H',K (.bool true) ⟨S,H'⟩)→C (.fn f) [] ⟨S,H⟩ K
set_option maxHeartbeats 16000000 in
theorem law25_awake_spec {C:CallW} (hC:LeC C C) (hW:WkC C) (P:Program) {c:Nat→FuncId} (h0:kS C (c 0)) (h1:NewS C (c 1)) (h2:NewFS C (c 2)) (h3:∀t:Int,FnS C (c 3) [.s (.int .i64 t)] (.agg (stc ⟨t,0⟩))) (h4:FBegS C (c 4)) (h5:FPutS C (c 5)) (h6:FComS C (c 6)):∀S H (K:AV→St→Prop),(∀H',K (.bool true) ⟨S,H'⟩)→runL C P (Cz5 c) [] ⟨S,H⟩ K:=by
  intro S H K hK
  have e0:keyOf [109]=(padK [109],0):=by decide
  have e1:keyOf [97]=(padK [97],0):=by decide
  have ek:okPts [padK [109]]=true:=by decide
  have eN:newA [padK [109]] H = .tup [.ptr (.heap H.length) 0,.i 0]:=by unfold newA; rw [ek]; rfl
  have eH:newH [padK [109]] H=H ++ [tabA [padK [109]]]:=by unfold newH; rw [ek]; rfl
  simp only [Cz5,A_,simprocAttr,ne_eq,(Uzc _).1]
  refine h0 _ _ _ _ ?_
  rw [e0]
  simp only [Cz5,A_,simprocAttr,ne_eq,(Uzc _).1]
  refine hW _ _ [lstK [padK [109]]] _ _ (.full .nil) ?_
  refine h1 _ _ _ _ (by simp) ?_
  rw [eN,eH]
  simp only [Cz5,A_,simprocAttr,ne_eq,(Uzc _).1]
  refine h2 _ _ _ _ _ (app_getH _ _) fun H0 h O0 t0 _ => ?_
  simp only [Cz5,A_,simprocAttr,ne_eq,(Uzc _).1,re1F]
  refine h3 3 _ _ _ ?_
  simp only [stc,Cz5,A_,simprocAttr,ne_eq,(Uzc _).1]
  refine h4 _ _ _ _ _ 1 ⟨3,0⟩ _ _ _ t0 fun H1 O1 t1 _ => ?_
  rw [aw25_beg] at t1 ⊢
  simp only [Cz5,A_,simprocAttr,ne_eq,(Uzc _).1]
  refine h0 _ _ _ _ ?_
  rw [e1]
  simp only [Cz5,A_,simprocAttr,ne_eq,(Uzc _).1,WR_]
  refine h5 _ _ _ _ _ 1 awW25 _ _ _ t1 fun H2 O2 t2 _ => ?_
  rw [aw25_put] at t2 ⊢
  simp only [Cz5,A_,simprocAttr,ne_eq,(Uzc _).1]
  refine h6 _ _ _ _ _ 1 _ _ _ t2 ek (by simp) fun H3 O3 t3 _ => ?_
  rw [aw25_com]
  have hix:∀k:IntKind,indexAddrL (.sl 45) (.list .sh 45 [mA awM25]) (.s (.int k 0))=some (.rop (msc awM25)):=fun k=>ixl_m0 (k:=k) (l:=[awM25]) (by simp)
  have hm:msc awM25=AV.s (.int .i64 5) :: AV.s (.int .i64 255) :: AV.s (.int .i64 0) :: AV.s (.int .i64 1) :: AV.s (.int .i64 0) :: AV.s (.int .i64 3) :: u8 0 :: (bs key0.b ++ (bs key0.b ++ [AV.list .sh 18 [wA awW25],.list .sh 17 [],.s (.str []),.s (.bool false),.s (.bool false),.s (.int .i64 0)])):=rfl
  rw [hm] at hix
  clear hm
  simp only [lstM,Cz5,A_,simprocAttr,ne_eq,(Uzc _).1,CHK_,Nat.reduceBEq,K4_,KG_,hix]
  refine h3 3 _ _ _ ?_
  simp only [stc,Cz5,A_,simprocAttr,ne_eq,(Uzc _).1,CHK_,Nat.reduceBEq,K4_,K5_,KG_,hix]
  exact hK _
end Go.AM
namespace Go.AM
open Go
open AV renaming undef → uu
set_option maxRecDepth 20000
def heavyF (m:Msg):Bool:=decide (20 < m.writes.length) || (decide (20 < m.items.length) || (decide (250 < m.val.length) || ((m.writes.any fun w=>decide (250 < w.val.length)) || (m.items.any fun w=>decide (250 < w.val.length)))))
def HeavyFS (C:CallW) (f:FuncId):Prop:=∀(m:Msg) S H (K:AV→St→Prop),okM m→K (.bool (heavyF m)) ⟨S,H⟩→C (.fn f) [.agg (msc m)] ⟨S,H⟩ K
set_option maxHeartbeats 8000000 in
theorem law25_heavy_spec {C:CallW} (hC:LeC C C) (P:Program):∀(m:Msg) S H (K:AV→St→Prop),okM m→K (.bool (heavyF m)) ⟨S,H⟩→runL C P Cz1e [.agg (msc m)] ⟨S,H⟩ K:=by
  intro m S H K hm hK
  unfold heavyF at hK
  simp only [Cz1e,msc,A_,simprocAttr,ne_eq,Uz4.1,KG_]
  by_cases a1:20 < m.writes.length
  · have a1':((20:Int) < (m.writes.length:Int)):=by omega
    rw [decide_eq_true a1,Bool.true_or] at hK
    simp only [A_,simprocAttr,ne_eq,Uz4.1,KG_,a1']
    exact hK
  have a1':¬((20:Int) < (m.writes.length:Int)):=by omega
  rw [decide_eq_false a1,Bool.false_or] at hK
  simp only [A_,simprocAttr,ne_eq,Uz4.1,KG_,a1']
  by_cases a2:20 < m.items.length
  · have a2':((20:Int) < (m.items.length:Int)):=by omega
    rw [decide_eq_true a2,Bool.true_or] at hK
    simp only [A_,simprocAttr,ne_eq,Uz4.1,KG_,a2']
    exact hK
  have a2':¬((20:Int) < (m.items.length:Int)):=by omega
  rw [decide_eq_false a2,Bool.false_or] at hK
  simp only [A_,simprocAttr,ne_eq,Uz4.1,KG_,a2']
  by_cases a3:250 < m.val.length
  · have a3':((250:Int) < (m.val.length:Int)):=by omega
    rw [decide_eq_true a3,Bool.true_or] at hK
    simp only [A_,simprocAttr,ne_eq,Uz4.1,KG_,a3']
    exact hK
  have a3':¬((250:Int) < (m.val.length:Int)):=by omega
  rw [decide_eq_false a3,Bool.false_or] at hK
  simp only [A_,simprocAttr,ne_eq,Uz4.1,KG_,a3']
  refine loop_rule hC (α:=Nat) (fun a=>m.writes.length - a) (fun a=>[.undef,.ptr (.stk S.length) 0,.undef,.s (.int .i64 a),uu,uu,uu,uu,uu,uu,uu,uu,uu,uu,uu,uu,uu,uu,uu,uu,uu,uu,uu,uu,uu,uu,uu,uu,uu,uu,uu,uu,uu,uu,uu,uu,uu,uu,uu,uu,uu,uu,uu,uu,uu,uu,uu,uu,uu,uu,uu]) (fun _=>S ++ [msc m]) (fun _=>H) (fun i=>i≤m.writes.length∧(m.writes.any fun w=>decide (250 < w.val.length))=((m.writes.drop i).any fun w=>decide (250 < w.val.length))) 0 ⟨by simp,rfl⟩ (by simp [keep,zm]) (by rw [app_take_add]; rfl) rfl (fun a _=>by simp [AV.under,AV.under.go]) ?_
  rintro i ⟨hi,hinv⟩ ih
  by_cases h16:i < m.writes.length
  · have hlt:((i:Int) < (m.writes.length:Int)):=by omega
    have hw:IntKind.i64.wrap ((i:Int) + 1)=(i:Int) + 1:=wrap_i64 (by omega) (by omega)
    rw [List.drop_eq_getElem_cons h16,List.any_cons] at hinv
    by_cases e:250 < (m.writes[i]).val.length
    · have e':((250:Int) < ((m.writes[i]).val.length:Int)):=by omega
      rw [decide_eq_true e,Bool.true_or] at hinv
      rw [hinv,Bool.true_or] at hK
      simp only [msc,A_,simprocAttr,ne_eq,Uz4.1,KG_,IT_,hlt,h16,e']
      exact hK
    · have e':¬((250:Int) < ((m.writes[i]).val.length:Int)):=by omega
      rw [decide_eq_false e,Bool.false_or] at hinv
      simp only [msc,A_,simprocAttr,ne_eq,Uz4.1,KG_,IT_,hlt,h16,e',hw]
      exact ih (i + 1) _ _ _ (by omega) ⟨by omega,hinv⟩ (by simp [keep,zm]) (by rw [app_take_add]; rfl) rfl
  have hlt:¬((i:Int) < (m.writes.length:Int)):=by omega
  rw [List.drop_of_length_le (by omega),List.any_nil] at hinv
  rw [hinv,Bool.false_or] at hK
  simp only [msc,A_,simprocAttr,ne_eq,Uz4.1,KG_,IT_,hlt]
  clear ih hinv
  refine loop_rule hC (α:=Nat) (fun a=>m.items.length - a) (fun a=>[.undef,.ptr (.stk S.length) 0,uu,uu,.s (.int .i64 a),uu,uu,uu,uu,uu,uu,uu,uu,uu,uu,uu,uu,uu,uu,uu,uu,uu,uu,uu,uu,uu,uu,uu,uu,uu,uu,uu,uu,uu,uu,uu,uu,uu,uu,uu,uu,uu,uu,uu,uu,uu,uu,uu,uu,uu,uu]) (fun _=>S ++ [msc m]) (fun _=>H) (fun i=>i≤m.items.length∧(m.items.any fun w=>decide (250 < w.val.length))=((m.items.drop i).any fun w=>decide (250 < w.val.length))) 0 ⟨by simp,rfl⟩ (by simp [keep,zm]) (by rw [app_take_add]; rfl) rfl (fun a _=>by simp [AV.under,AV.under.go]) ?_
  rintro i ⟨hi,hinv⟩ ih
  by_cases h16:i < m.items.length
  · have hlt:((i:Int) < (m.items.length:Int)):=by omega
    have hw:IntKind.i64.wrap ((i:Int) + 1)=(i:Int) + 1:=wrap_i64 (by omega) (by omega)
    rw [List.drop_eq_getElem_cons h16,List.any_cons] at hinv
    by_cases e:250 < (m.items[i]).val.length
    · have e':((250:Int) < ((m.items[i]).val.length:Int)):=by omega
      rw [decide_eq_true e,Bool.true_or] at hinv
      rw [hinv] at hK
      simp only [msc,A_,simprocAttr,ne_eq,Uz4.1,KG_,IT_,hlt,h16,e']
      exact hK
    · have e':¬((250:Int) < ((m.items[i]).val.length:Int)):=by omega
      rw [decide_eq_false e,Bool.false_or] at hinv
      simp only [msc,A_,simprocAttr,ne_eq,Uz4.1,KG_,IT_,hlt,h16,e',hw]
      exact ih (i + 1) _ _ _ (by omega) ⟨by omega,hinv⟩ (by simp [keep,zm]) (by rw [app_take_add]; rfl) rfl
  have hlt:¬((i:Int) < (m.items.length:Int)):=by omega
  rw [List.drop_of_length_le (by omega),List.any_nil] at hinv
  rw [hinv] at hK
  simp only [msc,A_,simprocAttr,ne_eq,Uz4.1,KG_,IT_,hlt]
  exact hK
structure inM (m:Msg):Prop where
  ok:okM m
  il : -9223372036854775808≤m.id
  ih:m.id≤9223372036854775807
  nl : -9223372036854775808≤m.num
  nh:m.num≤9223372036854775807
end Go.AM
namespace Go.AM
open Go
set_option maxRecDepth 20000
section
variable {H H':List HObj} {O O' O1 O1' O2 O2':List Nat} {h hl ht f g:Nat} {pts:List Key} {q q' q2:List (Int×Tx1)}
theorem FrA.keep {k:List Nat} (t:FrA H O h ht pts q) (e:KeepF H H' k) (e1:∀i∈O,i∉k) (e2:ht∉k):FrA H' O h ht pts q:=by
  obtain ⟨hl,l,t,e3⟩:=t
  exact ⟨hl,l,t.keep e e1 e2,e3⟩
theorem FrA.low (t:FrA H O h ht pts q):∀i∈O,i < H.length:=by
  obtain ⟨hl,l,t,e3⟩:=t
  exact t.low
theorem FrA.nt (t:FrA H O h ht pts q):ht∉O:=by
  obtain ⟨hl,l,t,e3⟩:=t
  exact t.nt
theorem FrA.tab (t:FrA H O h ht pts q):H[ht]? = some (tabA pts):=by
  obtain ⟨hl,l,t,e3⟩:=t
  exact t.tab
theorem FrA.txp (t:FrA H O h ht pts q) {id:Int} {x:Tx1} (e:getQ q id=some x):∃P b,TxP H P b pts x:=by
  obtain ⟨hl,l,t,rfl⟩:=t
  rw [getQ_FT] at e
  cases hg:getB FT.id l id with
  | none=>rw [hg] at e; cases e
  | some s =>
    rw [hg] at e
    obtain ⟨hs,_⟩:=getB_memF hg
    have:s.x=x:=Option.some.inj e
    subst this
    exact ⟨_,_,(t.tx s hs).1⟩
def Two (H:List HObj) (O1 O2:List Nat) (f g ht:Nat) (pts:List Key) (q q2:List (Int×Tx1)):Prop:=FrA H O1 f ht pts q∧FrA H O2 g ht pts q2∧∀i∈O1,i∉O2
theorem Two.left (t:Two H O1 O2 f g ht pts q q2) (a:FrA H' O1' f ht pts q') (l:Left H H' O1 O1'):Two H' O1' O2 f g ht pts q' q2:=by
  obtain ⟨t1,t2,t3⟩:=t
  refine ⟨a,t2.keep l.keep (fun i hi hj=>t3 i hj hi) t1.nt,fun i hi hj => ?_⟩
  rcases l.old i hi with h | h
  · exact t3 i h hj
  · have:=t2.low i hj; omega
theorem Two.right (t:Two H O1 O2 f g ht pts q q2) (a:FrA H' O2' g ht pts q') (l:Left H H' O2 O2'):Two H' O1 O2' f g ht pts q q':=by
  obtain ⟨t1,t2,t3⟩:=t
  refine ⟨t1.keep l.keep t3 t2.nt,a,fun i hi hj => ?_⟩
  rcases l.old i hj with h | h
  · exact t3 i hi h
  · have:=t1.low i hi; omega
end
theorem getQ_put {q:List (Int×Tx1)} {id:Int} {x y:Tx1} (h:getQ q id=some x):getQ (putQ q id y) id=some y:=by
  unfold getQ putQ at *
  induction q with
  | nil=>cases h
  | cons p q ih =>
    rw [List.map_cons,List.find?_cons]
    rw [List.find?_cons] at h
    by_cases e:p.1=id
    · rw [if_pos e,decide_eq_true rfl]; rfl
    · rw [if_neg e,decide_eq_false e]
      rw [decide_eq_false e] at h
      exact ih h
theorem tookX_again {pts:List Key} {x y:Tx1} {m:Msg} {l:List Msg} (h:tookX pts x m=some (y,l)):tookX pts y m=none:=by
  unfold tookX at h
  split at h
  · cases h
  rename_i h1
  split at h
  · cases h
  rename_i h2
  split at h
  · rename_i h3
    have h:=Option.some.inj h
    unfold voteF at h
    split at h
    · have e:=congrArg Prod.fst h
      dsimp only at e
      subst e
      unfold tookX
      rw [if_neg (show ¬(m.frm∉(decF (votN x m) false).parts.map (fun n:Nat=>(n:Int))) from h1),if_neg (by simp [decF]),if_neg (by simp [decF]),if_neg (by rw [h3.1]; simp)]
    · split at h
      · have e:=congrArg Prod.fst h
        dsimp only at e
        subst e
        unfold tookX
        rw [if_neg (show ¬(m.frm∉(votY x m).parts.map (fun n:Nat=>(n:Int))) from h1),if_pos (by simp [votY])]
      · have e:=congrArg Prod.fst h
        dsimp only at e
        subst e
        unfold tookX
        rw [if_neg (show ¬(m.frm∉(decF (votY x m) true).parts.map (fun n:Nat=>(n:Int))) from h1),if_neg (by simp [decF]),if_neg (by simp [decF]),if_neg (by rw [h3.1]; simp)]
  · split at h
    · have h:=Option.some.inj h
      have e:=congrArg Prod.fst h
      dsimp only at e
      subst e
      unfold tookX
      rw [if_neg h1,if_pos (by simp)]
    · cases h
theorem tookQ_again {pts:List Key} {q:List (Int×Tx1)} {m:Msg}:tookQ pts (tookQ pts q m).2 m=([],(tookQ pts q m).2):=by
  cases h:getQ q m.id with
  | none =>
    have e:tookQ pts q m=([],q):=by unfold tookQ; rw [h]
    rw [e]; exact e
  | some x =>
    cases h2:tookX pts x m with
    | none =>
      have e:tookQ pts q m=([],q):=by unfold tookQ; rw [h]; dsimp only; rw [h2]
      rw [e]; exact e
    | some p =>
      obtain ⟨y,l⟩:=p
      have e:tookQ pts q m=(l,putQ q m.id y):=by unfold tookQ; rw [h]; dsimp only; rw [h2]
      rw [e]
      dsimp only
      unfold tookQ
      rw [getQ_put h]
      dsimp only
      rw [tookX_again h2]
theorem fputQ_one {x:Tx1} (hx:x.step=0) (w:Wr):∃y:Tx1,(fputQ [(1,x)] 1 w).2=[(1,y)]∧y.step=0:=by
  have e:getQ [((1:Int),x)] 1=some x:=rfl
  unfold fputQ
  rw [e]
  dsimp only
  rw [if_neg (fun q=>q hx)]
  split
  · exact ⟨x,rfl,hx⟩
  · split
    · exact ⟨x,rfl,hx⟩
    · exact ⟨_,rfl,hx⟩
theorem commit_again {pts:List Key} {x:Tx1} (hx:x.step=0):againQ pts (commitQ pts [(1,x)] 1).2 1=(commitQ pts [(1,x)] 1).1.1:=by
  have e:getQ [((1:Int),x)] 1=some x:=rfl
  unfold commitQ
  rw [e]
  dsimp only
  rw [if_neg (fun q=>q hx)]
  by_cases h:x.ws=[]
  · rw [if_pos h]
    unfold againQ
    rw [show ((([]:List Msg),(0:Int)),putQ [(1,x)] 1 { x with step:=3,st:=x.snap }).2=putQ [(1,x)] 1 { x with step:=3,st:=x.snap } from rfl,getQ_put e]
    exact if_neg (by simp)
  · rw [if_neg h]
    unfold againQ
    rw [show ((allF pts 1 { x with step:=1,spl:=sortW x.ws,parts:=partsC pts (sortW x.ws),said:=[] },(0:Int)),putQ [(1,x)] 1 { x with step:=1,spl:=sortW x.ws,parts:=partsC pts (sortW x.ws),said:=[] }).2=putQ [(1,x)] 1 { x with step:=1,spl:=sortW x.ws,parts:=partsC pts (sortW x.ws),said:=[] } from rfl,getQ_put e]
    exact if_pos (.inl rfl)
theorem again_okM {H:List HObj} {O:List Nat} {h ht:Nat} {pts:List Key} {q:List (Int×Tx1)} (t:FrA H O h ht pts q) (id:Int):(∀m∈againQ pts q id,okM m)∧(againQ pts q id).length≤1001:=by
  unfold againQ
  cases hg:getQ q id with
  | none=>exact ⟨fun m hm=>(by cases hm),by simp⟩
  | some x =>
    dsimp only
    split
    · obtain ⟨P,b,tp⟩:=t.txp hg
      rcases tp with ⟨hw,tp⟩ | ⟨hw,hs,hp,tp⟩
      · unfold allF
        rw [tp.np]
        exact ⟨fun m hm=>(by cases hm),by simp⟩
      · refine ⟨fun m hm => ?_,?_⟩
        · unfold allF at hm
          obtain ⟨n,hn,rfl⟩:=List.mem_map.1 hm
          have hl:=partW_len (pts:=pts) (l:=x.spl) (n:=n)
          have:=tp.ls.1
          unfold sayF
          split
          · exact ⟨by dsimp only; omega,by simp [msg0],by simp [msg0],fun y hy=>by cases hy⟩
          · split
            · exact ⟨by simp [msg0],by simp [msg0],by simp [msg0],fun y hy=>by cases hy⟩
            · exact ⟨by simp [msg0],by simp [msg0],by simp [msg0],fun y hy=>by cases hy⟩
        · unfold allF
          rw [List.length_map]
          refine Nat.le_trans (List.length_filter_le _ _) ?_
          have:=partsC_len (pts:=pts) (l:=x.spl)
          have:=tp.ls.2
          rw [tp.np]; omega
    · exact ⟨fun m hm=>(by cases hm),by simp⟩
theorem beginQ_one {s:Stp}:beginQ [] 1 s=if goodS s=false then (1,[]) else (0,[(1,tx0 s)]):=by
  unfold beginQ
  rw [if_neg (by decide)]
  rfl
end Go.AM
namespace Go.AM
open Go
open AV renaming undef → uu
set_option maxRecDepth 20000
theorem newA_bad {l:List Key} {H:List HObj} (h:okPts l=false):newA l H = .tup [.nilP,.i 1]∧newH l H=H:=by unfold newA newH; rw [h]; exact ⟨rfl,rfl⟩
theorem newA_ok {l:List Key} {H:List HObj} (h:okPts l=true) (h2:l.length≤7):newA l H = .tup [.ptr (.heap H.length) 0,.i 0]∧newH l H=H ++ [tabA l]:=by
  unfold newA newH; rw [h,decide_eq_true (by omega:l.length < 8)]; exact ⟨rfl,rfl⟩
theorem take_msc {m:Msg}:(msc m).take 45=msc m:=List.take_of_length_le (Nat.le_of_eq (msc_length m))
set_option maxHeartbeats 64000000 in
theorem FrontAgain_spec {C:CallW} (hC:LeC C C) (P:Program) {c:Nat→FuncId} (h0:AwFS C (c 0)) (h1:NewS C (c 1)) (h2:NewFS C (c 2)) (h3:FBegS C (c 3)) (h4:FPutS C (c 4)) (h5:FComS C (c 5)) (h6:FAgS C (c 6)) (h7:SameMS C (c 7)) (h8:HeavyFS C (c 8)) (h9:FTkS C (c 9)) (h10:FResS C (c 10)):∀(points:List Key) (snap:Stp) (w:List Wr) (an:List Msg) S H (K:AV→St→Prop),points.length≤9223372036854775807→w.length≤9223372036854775807→an.length≤9223372036854775807→(∀m∈an,okM m)→(∀H',K (.bool true) ⟨S,H'⟩)→runL C P (Cz0 c) [lstK points,.agg (stc snap),lstW w,lstM an] ⟨S,H⟩ K:=by
  intro points snap w an S H K hpl hwl hal hok hK
  have h1':=h1 points
  unfold lstK at h1'
  simp only [stc,lstK,lstW,lstM,Cz0,A_,simprocAttr,ne_eq,(Uz1 _).1]
  refine h0 _ _ _ fun H1 => ?_
  by_cases b1:7 < points.length
  · have e1:((7:Int) < (points.length:Int))=True:=eq_true (by omega)
    simp only [Cz0,A_,simprocAttr,ne_eq,(Uz1 _).1,List.length_map,e1]
    exact hK _
  have e1:((7:Int) < (points.length:Int))=False:=eq_false (by omega)
  by_cases b2:16 < w.length
  · have e2:((16:Int) < (w.length:Int))=True:=eq_true (by omega)
    simp only [Cz0,A_,simprocAttr,ne_eq,(Uz1 _).1,List.length_map,e1,e2]
    exact hK _
  have e2:((16:Int) < (w.length:Int))=False:=eq_false (by omega)
  by_cases b3:30 < an.length
  · have e3:((30:Int) < (an.length:Int))=True:=eq_true (by omega)
    simp only [Cz0,A_,simprocAttr,ne_eq,(Uz1 _).1,List.length_map,e1,e2,e3]
    exact hK _
  have e3:((30:Int) < (an.length:Int))=False:=eq_false (by omega)
  simp only [Cz0,A_,simprocAttr,ne_eq,(Uz1 _).1,List.length_map,e1,e2,e3]
  refine h1' _ _ _ hpl ?_
  cases hp:okPts points with
  | false =>
    obtain ⟨a1,a2⟩:=newA_bad (H:=H1) hp
    rw [a1,a2]
    simp only [Cz0,A_,simprocAttr,ne_eq,(Uz1 _).1]
    exact hK _
  | true =>
  obtain ⟨a1,a2⟩:=newA_ok (H:=H1) hp (by omega)
  rw [a1,a2]
  have hps:points.length≤1000:=by omega
  simp only [Cz0,A_,simprocAttr,ne_eq,(Uz1 _).1]
  refine h2 _ _ _ _ _ (app_getH _ _) fun H2 f O1 t1 _ => ?_
  simp only [Cz0,A_,simprocAttr,ne_eq,(Uz1 _).1]
  refine h2 _ _ _ _ _ t1.tab fun H3 g O2 t2 l2 => ?_
  have tt:Two H3 O1 O2 f g H1.length points [] []:=⟨t1.keep l2.keep (by simp) (by simp),t2,fun i hi hj=>by
    rcases l2.old i hj with q | q
    · cases q
    · have:=t1.low i hi; omega⟩
  clear t1 t2 l2
  simp only [Cz0,A_,simprocAttr,ne_eq,(Uz1 _).1]
  refine h3 _ _ _ _ _ 1 snap _ _ _ tt.1 fun H4 O1' t1 l1 => ?_
  rw [beginQ_one] at t1 ⊢
  have tt:=tt.left t1 l1
  cases hg:goodS snap with
  | false =>
    rw [hg] at tt
    simp only [Cz0,A_,simprocAttr,ne_eq,(Uz1 _).1]
    exact hK _
  | true =>
  rw [hg] at tt
  rw [if_neg (by simp)] at tt ⊢
  simp only [Cz0,A_,simprocAttr,ne_eq,(Uz1 _).1]
  refine h3 _ _ _ _ _ 1 snap _ _ _ tt.2.1 fun H5 O2' t2 l2 => ?_
  rw [beginQ_one,hg,if_neg (by simp)] at t2 ⊢
  have tt:=tt.right t2 l2
  clear t1 t2 l1 l2
  simp only [Cz0,A_,simprocAttr,ne_eq,(Uz1 _).1]
  refine loop_rule hC (α:=Nat×List HObj×List Nat×List Nat×Tx1) (fun a=>w.length - a.1) (fun a=>[uu,uu,.list .sh 18 (w.map wA),.list .sh 45 (an.map mA),uu,uu,uu,uu,uu,uu,uu,.ptr (.heap f) 0,.ptr (.heap g) 0,.s (.int .i64 (a.1:Nat)),uu,uu,uu,uu,uu,uu,uu,uu,uu,uu,uu,uu,uu,uu,uu,uu,uu,uu,uu,uu,uu,uu,uu,uu,uu,uu,uu,uu,uu,uu,uu,uu,uu,uu,uu,uu,uu,uu,uu,uu,uu,uu,uu,uu,uu,uu,uu,uu,uu,uu,uu,uu,uu,uu,uu,uu,uu,uu,uu,uu,uu,uu,uu,uu,uu,uu,uu,uu,uu,uu,uu,uu,uu,uu,uu,uu,uu,uu,uu,uu,uu,uu,uu,uu,uu,uu,uu,uu,uu,uu,uu,uu,uu,uu,uu,uu,uu,uu,uu,uu,uu,uu,uu,uu,uu,uu,uu,uu,uu,uu,uu,uu,uu,uu,uu,uu,uu,uu,uu,uu,uu,uu,uu,uu,uu,uu,uu,uu,uu,uu,uu,uu,uu,uu,uu,uu,uu,uu,uu,uu,uu,uu,uu,uu,uu,uu,uu,uu,uu,uu,uu,uu,uu,uu,uu,uu,uu,uu,uu,uu]) (fun _=>S ++ [[.s (.int .i64 snap.t),u8 snap.n]]) (fun a=>a.2.1) (fun a=>a.1≤w.length∧Two a.2.1 a.2.2.1 a.2.2.2.1 f g H1.length points [(1,a.2.2.2.2)] [(1,a.2.2.2.2)]∧a.2.2.2.2.step=0) (0,H5,_,_,tx0 snap) ⟨Nat.zero_le _,tt,rfl⟩ (by rfl) (by rw [app_take_add]; rfl) rfl (fun a _=>by simp [AV.under,AV.under.go]) ?_
  clear tt
  rintro ⟨i,H6,P1,P2,x⟩ ⟨hi,tt,hx⟩ ih
  dsimp only at hi tt hx ih ⊢
  by_cases hil:i < w.length
  · have hlt:((i:Int) < (w.length:Int)):=by omega
    have hw:=wrap_succ (i:=i) (by omega)
    simp only [Cz0,A_,simprocAttr,ne_eq,(Uz1 _).1,WR_,hlt,hil]
    refine h4 _ _ _ _ _ 1 w[i] _ _ _ tt.1 fun H7 Q1 t1 l1 => ?_
    obtain ⟨y,hy,hys⟩:=fputQ_one (x:=x) hx w[i]
    have tt:=tt.left t1 l1
    simp only [Cz0,A_,simprocAttr,ne_eq,(Uz1 _).1,WR_,hlt,hil]
    refine h4 _ _ _ _ _ 1 w[i] _ _ _ tt.2.1 fun H8 Q2 t2 l2 => ?_
    have tt:=tt.right t2 l2
    rw [hy] at tt
    simp only [Cz0,A_,simprocAttr,ne_eq,(Uz1 _).1,WR_,hlt,hil,hw]
    exact ih (i + 1,H8,Q1,Q2,y) _ _ _ (by dsimp only; omega) ⟨by dsimp only; omega,tt,hys⟩ (by rfl) (by rw [app_take_add]; rfl) rfl
  have hlt:¬((i:Int) < (w.length:Int)):=by omega
  simp only [Cz0,A_,simprocAttr,ne_eq,(Uz1 _).1,hlt]
  clear ih hi hil hlt
  refine h5 _ _ _ _ _ 1 _ _ _ tt.1 hp hps fun H7 Q1 t1 l1 => ?_
  have tt:=tt.left t1 l1
  have ag:=commit_again (pts:=points) hx
  clear t1 l1
  generalize (commitQ points [(1,x)] 1).1.1=L at ag tt ⊢
  generalize (commitQ points [(1,x)] 1).1.2=er at ⊢
  simp only [lstM,Cz0,A_,simprocAttr,ne_eq,(Uz1 _).1]
  refine h5 _ _ _ _ _ 1 _ _ _ tt.2.1 hp hps fun H8 Q2 t2 l2 => ?_
  have tt:=tt.right t2 l2
  clear t2 l2
  generalize (commitQ points [(1,x)] 1).2=q at ag tt ⊢
  simp only [lstM,Cz0,A_,simprocAttr,ne_eq,(Uz1 _).1]
  refine h6 _ _ _ _ _ 1 _ _ _ tt.1 ?_
  obtain ⟨okL,lenL'⟩:=again_okM tt.1 1
  rw [ag] at okL lenL' ⊢
  simp only [lstM,Cz0,A_,simprocAttr,ne_eq,(Uz1 _).1,List.length_map]
  refine loop_rule hC (α:=Nat) (fun a=>L.length - a) (fun a=>[uu,uu,uu,.list .sh 45 (an.map mA),uu,uu,uu,uu,uu,uu,uu,.ptr (.heap f) 0,.ptr (.heap g) 0,.undef,.list .sh 45 (L.map mA),.undef,.list .sh 45 (L.map mA),.s (.int .i64 (a:Nat)),uu,uu,uu,uu,uu,uu,uu,uu,uu,uu,uu,uu,uu,uu,uu,uu,uu,uu,uu,uu,uu,uu,uu,uu,uu,uu,uu,uu,uu,uu,uu,uu,uu,uu,uu,uu,uu,uu,uu,uu,uu,uu,uu,uu,uu,uu,uu,uu,uu,uu,uu,uu,uu,uu,uu,uu,uu,uu,uu,uu,uu,uu,uu,uu,uu,uu,uu,uu,uu,uu,uu,uu,uu,uu,uu,uu,uu,uu,uu,uu,uu,uu,uu,uu,uu,uu,uu,uu,uu,uu,uu,uu,uu,uu,uu,uu,uu,uu,uu,uu,uu,uu,uu,uu,uu,uu,uu,uu,uu,uu,uu,uu,uu,uu,uu,uu,uu,uu,uu,uu,uu,uu,uu,uu,uu,uu,uu,uu,uu,uu,uu,uu,uu,uu,uu,uu,uu,uu,uu,uu,uu,uu,uu,uu,uu,uu,uu,uu,uu,uu,uu,uu,uu,uu,uu,uu]) (fun _=>S ++ [[.s (.int .i64 snap.t),u8 snap.n]]) (fun _=>H8) (fun a=>a≤L.length) 0 (Nat.zero_le _) (by rfl) (by rw [app_take_add]; rfl) rfl (fun a _=>by simp [AV.under,AV.under.go]) ?_
  intro i hi ih
  by_cases hil:i < L.length
  · have hlt:((i:Int) < (L.length:Int)):=by omega
    have hw:=wrap_succ (i:=i) (by omega)
    have hix:=fun k=>ixl_m (k:=k) hil
    simp only [Cz0,A_,simprocAttr,ne_eq,(Uz1 _).1,CHK_,Nat.reduceBEq,hlt,hix,msc_length,take_msc,List.length_map]
    refine h7 L[i] L[i] _ _ _ (okL _ (List.getElem_mem hil)) (okL _ (List.getElem_mem hil)) ?_
    rw [decide_eq_true rfl]
    simp only [Cz0,A_,simprocAttr,ne_eq,(Uz1 _).1,CHK_,Nat.reduceBEq,hlt,hix,msc_length,take_msc,List.length_map,hw]
    exact ih (i + 1) _ _ _ (by omega) (by omega) (by rfl) (by rw [app_take_add]; rfl) rfl
  have hlt:¬((i:Int) < (L.length:Int)):=by omega
  simp only [Cz0,A_,simprocAttr,ne_eq,(Uz1 _).1,hlt,List.length_map]
  clear ih hi hil hlt ag okL lenL'
  refine loop_rule hC (α:=Nat×List HObj×List Nat×List Nat×List (Int×Tx1)) (fun a=>an.length - a.1) (fun a=>[uu,uu,uu,.list .sh 45 (an.map mA),uu,uu,uu,uu,uu,uu,uu,.ptr (.heap f) 0,.ptr (.heap g) 0,uu,uu,uu,uu,uu,.s (.int .i64 (a.1:Nat)),uu,uu,uu,uu,uu,uu,uu,uu,uu,uu,uu,uu,uu,uu,uu,uu,uu,uu,uu,uu,uu,uu,uu,uu,uu,uu,uu,uu,uu,uu,uu,uu,uu,uu,uu,uu,uu,uu,uu,uu,uu,uu,uu,uu,uu,uu,uu,uu,uu,uu,uu,uu,uu,uu,uu,uu,uu,uu,uu,uu,uu,uu,uu,uu,uu,uu,uu,uu,uu,uu,uu,uu,uu,uu,uu,uu,uu,uu,uu,uu,uu,uu,uu,uu,uu,uu,uu,uu,uu,uu,uu,uu,uu,uu,uu,uu,uu,uu,uu,uu,uu,uu,uu,uu,uu,uu,uu,uu,uu,uu,uu,uu,uu,uu,uu,uu,uu,uu,uu,uu,uu,uu,uu,uu,uu,uu,uu,uu,uu,uu,uu,uu,uu,uu,uu,uu,uu,uu,uu,uu,uu,uu,uu,uu,uu,uu,uu,uu,uu,uu,uu,uu,uu,uu,uu]) (fun _=>S ++ [[.s (.int .i64 snap.t),u8 snap.n]]) (fun a=>a.2.1) (fun a=>a.1≤an.length∧Two a.2.1 a.2.2.1 a.2.2.2.1 f g H1.length points a.2.2.2.2 a.2.2.2.2) (0,H8,Q1,Q2,q) ⟨Nat.zero_le _,tt⟩ (by rfl) (by rw [app_take_add]; rfl) rfl (fun a _=>by simp [AV.under,AV.under.go]) ?_
  clear tt
  rintro ⟨i,H9,P1,P2,q⟩ ⟨hi,tt⟩ ih
  dsimp only at hi tt ih ⊢
  by_cases hil:i < an.length
  case neg =>
    have hlt:¬((i:Int) < (an.length:Int)):=by omega
    simp only [Cz0,A_,simprocAttr,ne_eq,(Uz1 _).1,hlt,List.length_map]
    exact hK _
  have hlt:((i:Int) < (an.length:Int)):=by omega
  have hw:=wrap_succ (i:=i) (by omega)
  have hix:=fun k=>ixl_m (k:=k) hil
  simp only [Cz0,A_,simprocAttr,ne_eq,(Uz1 _).1,CHK_,Nat.reduceBEq,hlt,hix,msc_length,take_msc,List.length_map]
  refine h8 an[i] _ _ _ (hok _ (List.getElem_mem hil)) ?_
  cases hh:heavyF an[i] with
  | true =>
    simp only [Cz0,A_,simprocAttr,ne_eq,(Uz1 _).1,CHK_,Nat.reduceBEq,hlt,hix,msc_length,take_msc,List.length_map]
    exact hK _
  | false =>
  simp only [Cz0,A_,simprocAttr,ne_eq,(Uz1 _).1,CHK_,Nat.reduceBEq,hlt,hix,msc_length,take_msc,List.length_map]
  refine h9 _ _ _ _ _ an[i] _ _ _ tt.1 fun H10 Q1 t1 l1 => ?_
  have tt:=tt.left t1 l1
  simp only [lstM,Cz0,A_,simprocAttr,ne_eq,(Uz1 _).1,CHK_,Nat.reduceBEq,hlt,hix,msc_length,take_msc,List.length_map]
  refine h9 _ _ _ _ _ an[i] _ _ _ tt.2.1 fun H11 Q2 t2 l2 => ?_
  have tt:=tt.right t2 l2
  simp only [lstM,Cz0,A_,simprocAttr,ne_eq,(Uz1 _).1,CHK_,Nat.reduceBEq,hlt,hix,msc_length,take_msc,List.length_map]
  refine h9 _ _ _ _ _ an[i] _ _ _ tt.2.1 fun H12 Q3 t3 l3 => ?_
  rw [tookQ_again] at t3 ⊢
  have tt:=tt.right t3 l3
  clear t1 l1 t2 l2 t3 l3
  generalize (tookQ points q an[i]).2=q2 at tt ⊢
  simp only [lstM,Cz0,A_,simprocAttr,ne_eq,(Uz1 _).1,CHK_,Nat.reduceBEq,hlt,hix,msc_length,take_msc,List.length_map]
  refine h10 _ _ _ _ _ 1 _ _ _ tt.1 ?_
  simp only [stc,lstM,Cz0,A_,simprocAttr,ne_eq,(Uz1 _).1,CHK_,Nat.reduceBEq]
  refine h10 _ _ _ _ _ 1 _ _ _ tt.2.1 ?_
  simp only [stc,lstM,Cz0,A_,simprocAttr,ne_eq,(Uz1 _).1,CHK_,Nat.reduceBEq]
  refine h6 _ _ _ _ _ 1 _ _ _ tt.1 ?_
  simp only [stc,lstM,Cz0,A_,simprocAttr,ne_eq,(Uz1 _).1,CHK_,Nat.reduceBEq,List.length_map]
  refine h6 _ _ _ _ _ 1 _ _ _ tt.2.1 ?_
  simp only [stc,lstM,Cz0,A_,simprocAttr,ne_eq,(Uz1 _).1,CHK_,Nat.reduceBEq,List.length_map,hw]
  exact ih (i + 1,H12,Q1,Q3,q2) _ _ _ (by dsimp only; omega) ⟨by dsimp only; omega,tt⟩ (by rfl) (by rw [app_take_add]; rfl) rfl
end Go.AM
namespace Go.AM
open Go
set_option maxRecDepth 20000
theorem permIn_all {α:Type} [Inhabited α] {d R:Array α} (h:R.toList.Perm d.toList):Sort.PermIn 0 d.size d R:=by
  have hs:R.size=d.size:=by simpa using h.length_eq
  refine ⟨hs,fun i hi => ?_,?_⟩
  · rw [getElem!_neg _ _ (by omega),getElem!_neg _ _ (by omega)]
  · have e:∀a:Array α,a.size=d.size→a.extract 0 d.size=a:=fun a h=>by rw [←h]; simp
    rw [e _ hs,e _ rfl]; exact h
theorem bears {P:Program} {f:FuncId} {F B:Func} (h:P.funcs[f]? = some F) (hn:(F.name == "runtime.NumGoroutine")=false) (he:F={ B with name:=F.name }):Proofs.Bears P f B:=⟨F.name,hn,h.trans (congrArg some he)⟩
theorem kit_SortIS {P:Program} {C:CallW} (h:KitW P C) {ρ : Shelf.Ren} (L:Proofs.SlLaysM.n5 P ρ):SortIS C (ρ.f 5)∧OneN C (ρ.f 5) (.tup []):=by
  refine ⟨fun n d S H K hS hd hK => ?_,fun S H K hK=>h.srIN ρ L _ K hK⟩
  have hm:=List.mergeSort_perm d.toList fun x y=>decide (x≤y)
  have ho:=List.pairwise_mergeSort (le:=fun x y:Int=>decide (x≤y)) (fun a b c h1 h2=>by simp at *; omega) (fun a b=>by simp; omega) d.toList
  have:=h.srI ρ L n d.toList S H K (by rw [hS,flat_iA]; rfl) (by simpa using hd) ?_
  · simpa using this
  · have hk:=hK (d.toList.mergeSort fun x y=>decide (x≤y)).toArray (permIn_all (by simpa using hm)) fun i j hi hij hj => ?_
    · rw [flat_iA] at hk; exact hk
    · have hl:(d.toList.mergeSort fun x y=>decide (x≤y)).length=d.size:=by simp
      rw [getElem!_pos _ j (by simpa using hj),getElem!_pos _ i (by simp; omega)]
      have:=List.pairwise_iff_getElem.1 ho i j (by omega) (by omega) hij
      simpa [ltI] using this
theorem scalars_bs:∀l:List UInt8,scalars (bs l)=some (l.map fun b=>Value.int .u8 b.toNat)
  | []=>rfl
  | x :: l=>by show (scalars (bs l)).map _=_; rw [scalars_bs l]; rfl
theorem wA_enc:EncK 18 wA:=fun x=>⟨wc x,_,rfl,wc_length x,scalars_app (scalars_bs x.key.b) rfl⟩
theorem kit_SortFSW {P : Program} {C : CallW} (h : KitW P C) {ρ : Shelf.Ren} (L : Proofs.SlLaysF0.n6 P ρ) (ha : ∀ w, (Go.isAgg (ρ.t 24)).run P w = .ok true w) (hz : ∀ w, (Go.sizeOf (ρ.t 24)).run P w = .ok 18 w) {k : FuncId} (hk : CvKS C k) (hb : hasBody P k = true) :
    SortFSW C k [] cvK (ρ.f 6)∧SortFNW C (ρ.f 6) :=
  ⟨fun n d S H K _ hS hd hK=>h.srt ρ L 18 ha hz Wr inferInstance wA cvK k n d S H K wA_enc swo_cvK hb (fun x y=>hk x y [] [] _ rfl) hS hd hK,
    fun g q S H K _ hK=>h.srtN ρ L _ _ K hK⟩
end Go.AM
namespace Go.AM
open Go
set_option maxRecDepth 20000
end Go.AM
namespace Go.AM
open Go
set_option maxRecDepth 20000
theorem comp_fold:∀(l acc:List Int),acc.Pairwise (· < ·)→(∀a∈acc,∀x∈l,a≤x)→l.Pairwise (·≤·)→(l.foldl compStep acc).Pairwise (· < ·)∧∀x,x∈l.foldl compStep acc↔x∈acc∨x∈l
  | [],acc,h1,_,_=>⟨h1,fun x=>by simp⟩
  | y :: l,acc,h1,h2,h3=>by
    rw [List.foldl_cons]
    rw [List.pairwise_cons] at h3
    by_cases hy:acc.getLast? = some y
    · have hc:compStep acc y=acc:=if_pos hy
      rw [hc]
      obtain ⟨q1,q2⟩:=comp_fold l acc h1 (fun a ha x hx=>h2 a ha x (List.mem_cons_of_mem _ hx)) h3.2
      refine ⟨q1,fun x => ?_⟩
      rw [q2,List.mem_cons]
      have hm:y∈acc:=List.mem_of_getLast? hy
      constructor
      · rintro (h | h)
        · exact .inl h
        · exact .inr (.inr h)
      · rintro (h | rfl | h)
        · exact .inl h
        · exact .inl hm
        · exact .inr h
    · have hc:compStep acc y=acc ++ [y]:=if_neg hy
      rw [hc]
      have hlt:∀a∈acc,a < y:=by
        intro a ha
        have h4:=h2 a ha y List.mem_cons_self
        rcases Int.lt_or_eq_of_le h4 with h5 | h5
        · exact h5
        · exfalso
          obtain ⟨z,hz⟩:∃z,acc.getLast? = some z:=by
            cases hq:acc.getLast? with
            | none=>rw [List.getLast?_eq_none_iff] at hq; subst hq; cases ha
            | some z=>exact ⟨z,rfl⟩
          have hzm:z∈acc:=List.mem_of_getLast? hz
          have hzy:=h2 z hzm y List.mem_cons_self
          have haz:a≤z:=by
            obtain ⟨ys,hys⟩:=List.getLast?_eq_some_iff.1 hz
            rw [hys] at ha h1
            rcases List.mem_append.1 ha with h6 | h6
            · have:=(List.pairwise_append.1 h1).2.2 a h6 z (by simp); omega
            · have:a=z:=by simpa using h6
              omega
          have:z=y:=by omega
          exact hy (by rw [hz,this])
      obtain ⟨q1,q2⟩:=comp_fold l (acc ++ [y]) (List.pairwise_append.2 ⟨h1,by simp,fun a ha b hb=>by
        have hb2:b=y:=by simpa using hb
        subst hb2
        exact hlt a ha⟩) (fun a ha x hx=>by
        rcases List.mem_append.1 ha with h6 | h6
        · exact h2 a h6 x (List.mem_cons_of_mem _ hx)
        · have:a=y:=by simpa using h6
          rw [this]; exact h3.1 x hx) h3.2
      refine ⟨q1,fun x => ?_⟩
      rw [q2,List.mem_append,List.mem_singleton,List.mem_cons]
      constructor
      · rintro ((h | h) | h)
        · exact .inl h
        · exact .inr (.inl h)
        · exact .inr (.inr h)
      · rintro (h | h | h)
        · exact .inl (.inl h)
        · exact .inl (.inr h)
        · exact .inr h
theorem inc_eq:∀{a b:List Int},a.Pairwise (· < ·)→b.Pairwise (· < ·)→(∀x,x∈a↔x∈b)→a=b
  | [],[],_,_,_=>rfl
  | [],y :: b,_,_,h=>by have:=(h y).2 List.mem_cons_self; cases this
  | x :: a,[],_,_,h=>by have:=(h x).1 List.mem_cons_self; cases this
  | x :: a,y :: b,h1,h2,h=>by
    rw [List.pairwise_cons] at h1 h2
    have e:x=y:=by
      rcases List.mem_cons.1 ((h x).1 List.mem_cons_self) with h3 | h3
      · exact h3
      · rcases List.mem_cons.1 ((h y).2 List.mem_cons_self) with h4 | h4
        · exact h4.symm
        · have:=h1.1 y h4; have:=h2.1 x h3; omega
    subst e
    congr 1
    refine inc_eq h1.2 h2.2 fun z => ?_
    constructor
    · intro hz
      rcases List.mem_cons.1 ((h z).1 (List.mem_cons_of_mem _ hz)) with h3 | h3
      · have:=h1.1 z hz; omega
      · exact h3
    · intro hz
      rcases List.mem_cons.1 ((h z).2 (List.mem_cons_of_mem _ hz)) with h3 | h3
      · have:=h2.1 z hz; omega
      · exact h3
theorem ofK_le {pts:List Key} {k:Key} {n:Nat} (h:ofK pts k=(n:Int)):n < pts.length + 1:=by
  unfold ofK at h
  split at h
  · have:=cnt_le' k pts; omega
  · omega
theorem parts_sorted {pts:List Key} {l:List Wr} {R:Array Int} (h1:Sort.PermIn 0 (outI pts l).length (arrI (outI pts l)) R) (h2:Sort.SortedIn ltI 0 (outI pts l).length R):compI R.toList=(partsC pts l).map fun (n:Nat)=>(n:Int):=by
  have hsz:R.size=(outI pts l).length:=h1.1.trans (arrI_size _)
  have hperm:R.toList.Perm ((outI pts l).map fun (n:Nat)=>(n:Int)):=by
    have:=h1.2.2
    rw [←hsz,Array.extract_size,hsz] at this
    rw [show (outI pts l).length=(arrI (outI pts l)).size from (arrI_size _).symm,Array.extract_size] at this
    simpa [arrI] using this
  have hsort:R.toList.Pairwise (·≤·):=by
    rw [List.pairwise_iff_getElem]
    intro i j hi hj hij
    have hj':j < R.size:=by simpa using hj
    have hi':i < R.size:=by simpa using hi
    have:=h2 i j (Nat.zero_le _) hij (by omega)
    rw [get_bang hj',get_bang hi'] at this
    unfold ltI at this
    have:=of_decide_eq_false this
    omega
  obtain ⟨q1,q2⟩:=comp_fold R.toList [] .nil (fun a h=>by cases h) hsort
  refine inc_eq q1 ?_ fun x => ?_
  · rw [List.pairwise_map]
    have:((List.range (pts.length + 1)).filter fun j=>decide (partW pts l j≠[])).Pairwise (· < ·):=List.Pairwise.filter _ List.pairwise_lt_range
    exact this.imp fun h=>by omega
  · unfold compI
    rw [q2,hperm.mem_iff]
    simp only [List.not_mem_nil,false_or,List.mem_map]
    constructor
    · rintro ⟨n,hn,rfl⟩
      refine ⟨n,?_,rfl⟩
      unfold outI at hn
      rw [List.mem_filterMap] at hn
      obtain ⟨w,hw,h3⟩:=hn
      split at h3
      case isFalse=>cases h3
      rename_i h4
      have h5:ofK pts w.key=(n:Int):=by have:=Option.some.inj h3; omega
      unfold partsC
      rw [List.mem_filter,List.mem_range]
      refine ⟨ofK_le h5,decide_eq_true fun e => ?_⟩
      have:w∈partW pts l n:=List.mem_filter.2 ⟨hw,decide_eq_true h5⟩
      rw [e] at this
      cases this
    · rintro ⟨n,hn,rfl⟩
      refine ⟨n,?_,rfl⟩
      unfold partsC at hn
      rw [List.mem_filter] at hn
      have h3:=of_decide_eq_true hn.2
      obtain ⟨w,hw⟩:=List.exists_mem_of_ne_nil _ h3
      unfold partW at hw
      rw [List.mem_filter] at hw
      have h5:=of_decide_eq_true hw.2
      unfold outI
      rw [List.mem_filterMap]
      exact ⟨w,hw.1,by rw [if_pos (by omega),h5]; rfl⟩
theorem parts_wk {pts:List Key} {l:List Wr} {R:Array Int} (h1:Sort.PermIn 0 (outI pts l).length (arrI (outI pts l)) R) (h2:Sort.SortedIn ltI 0 (outI pts l).length R):WkL [(if outI pts l=[] then .s .nilS else .list .sh 1 ((compI R.toList).map iA):AV).sh] [lstI (partsC pts l)]:=by
  have h3:=parts_sorted h1 h2
  have e:lstI (partsC pts l) = .list .sh 1 ((compI R.toList).map iA):=by
    rw [h3,List.map_map]
    rfl
  rw [e]
  by_cases ho:outI pts l=[]
  · rw [if_pos ho]
    have:R.toList=[]:=by
      have:=h1.1
      rw [ho] at this
      exact List.eq_nil_of_length_eq_zero (by simpa [arrI] using this)
    rw [this]
    exact .nilS (by omega) .nil
  · rw [if_neg ho]
    exact .same .nil
end Go.AM
namespace Go.AM
open Go
set_option maxRecDepth 20000
end Go.AM
namespace Go.AM
open Go
set_option maxRecDepth 20000
theorem law13_at_spec {C:CallW} (P:Program):∀(t:Int) S H (K:AV→St→Prop),K (.agg (stc ⟨t,0⟩)) ⟨S,H⟩→runL C P Cz1s [.s (.int .i64 t)] ⟨S,H⟩ K:=by
  intro t S H K hK
  simp only [Cz1s,A_,simprocAttr,ne_eq,Uz39.1]
  exact hK
end Go.AM
namespace Go.AM
open Go
section
variable {H:Type} {enc:TypeId×Value→H} {P:Program} {w:World} {sp:Nat→Bool} {held:Bool}
theorem of_each {α β:Type} {f:β→α}:∀(l:List α),(∀x∈l,∃b,x=f b)→∃bs:List β,l=bs.map f
  | [],_=>⟨[],rfl⟩
  | x :: l,h=>by
    obtain ⟨b,rfl⟩:=h x List.mem_cons_self
    obtain ⟨bs,rfl⟩:=of_each l fun y hy=>h y (List.mem_cons_of_mem _ hy)
    exact ⟨b :: bs,rfl⟩
theorem trodAll_stays {W W' : World} (hl : laidOutB P = true) (hb : RowKit.Below W.heap.size W W') : ∀ {ts : List TypeId} {vs : List Value} {ds : List (DataW H)} {ps : List MemPlace}, (∀ t ∈ ts, P.readableRec t = true ∧ t < P.types.size) →
    DataW.TrodAll enc P W 0 (fun _=>true) true ts vs ds ps→DataW.TrodAll enc P W' 0 (fun b=>decide (b < W.heap.size)) true ts vs ds ps
  | [],[],[],_,_,h=>h
  | t :: ts,v :: vs,d :: ds,ps,ht,⟨p,q,h1,h2,e⟩=>by
    obtain ⟨n,hn⟩:=h1
    exact ⟨p,q,RowKit.Below.trod hl (ht t List.mem_cons_self).1 (ht t List.mem_cons_self).2 ⟨n,hn⟩ hb (DataW.trod_lt n _ _ _ hn),trodAll_stays hl hb (fun t h=>ht t (List.mem_cons_of_mem _ h)) h2,e⟩
  | [],[],_ :: _,_,_,h=>h.elim
  | [],_ :: _,_,_,_,h=>h.elim
  | _ :: _,[],_,_,_,h=>h.elim
  | _ :: _,_ :: _,[],_,_,h=>h.elim
end
end Go.AM
namespace Go.AM
open Go
section
variable {H:Type} {enc:TypeId×Value→H} {P:Program} {w:World} {sp:Nat→Bool} {held:Bool}
def contig (P:Program):List Field→Nat→Nat→Bool
  | [],o,tot=>o == tot
  | f :: l,o,tot=>f.offset == o && contig P l (o + P.cellsOf f.type) tot
def plainT (P:Program):Nat→TypeId→Bool
  | 0,_=>false
  | d + 1,t=>match P.underlying t with
    | some .bool | some (.int _) | some .string=>true
    | some (.slice e)=>decide (0 < P.cellsOf e) && (isAgg P e || P.cellsOf e == 1) && plainT P d e
    | some (.struct fs)=>contig P fs.toList 0 (P.cellsOf t) && fs.toList.all fun f=>plainT P d f.type
    | some (.array m e)=>P.cellsOf t == m * P.cellsOf e && plainT P d e
    | _=>false
def shp (P:Program):Nat→TypeId→List AV→Prop
  | 0,_,_=>False
  | d + 1,t,azz=>match P.underlying t with
    | some .bool=>∃b,azz=[.s (.bool b)]
    | some (.int k)=>∃i,azz=[.s (.int k i)]∧(Lit.int k i).wf=true
    | some .string=>∃l,azz=[.s (.str l)]∧l.length≤maxLen
    | some (.slice e)=>∃es:List AV,azz=[.list .sh (P.cellsOf e) es]∧es.length≤maxLen∧∀x∈es,shp P d e x.cells∧(isAgg P e=true→x = .agg x.cells)∧(isAgg P e=false→x.cells=[x])
    | some (.struct fs)=>fs.toList.foldr (fun f (Q:List AV→Prop) azz=>∃a b,azz=a ++ b∧shp P d f.type a∧Q b) (fun azz=>azz=[]) azz
    | some (.array m e)=>∃ps:List (List AV),ps.length=m∧azz=ps.flatten∧∀p∈ps,shp P d e p
    | _=>False
structure Tells (w:World) (azz:List AV) (cs:List Value):Prop where
  vl:VL G.none w azz cs
  cell:∀c∈azz,c.isCell=true
  low:AV.under.go 0 azz=true
theorem Tells.nil:Tells w [] []:=⟨.nil,(fun _ h=>by cases h),rfl⟩
theorem Tells.app {a b:List AV} {c d:List Value} (h:Tells w a c) (h':Tells w b d):Tells w (a ++ b) (c ++ d) :=
  ⟨h.vl.app h'.vl,fun x hx=>(List.mem_append.1 hx).elim (h.cell x) (h'.cell x),by rw [under_app',h.low,h'.low]; rfl⟩
theorem Tells.flat:∀{ps:List (List AV)} {qs:List (List Value)},ps.length=qs.length→(∀(i:Nat) (p:List AV) (q:List Value),ps[i]? = some p→qs[i]? = some q→Tells w p q)→Tells w ps.flatten qs.flatten
  | [],[],_,_ => .nil
  | [],_ :: _,h,_=>by simp at h
  | _ :: _,[],h,_=>by simp at h
  | p :: ps,q :: qs,h,hall=>by
    rw [List.flatten_cons,List.flatten_cons]
    exact (hall 0 p q rfl rfl).app (Tells.flat (by simpa using h) fun i a b ha hb=>hall (i + 1) a b (by simpa using ha) (by simpa using hb))
theorem Tells.sc (x:Sc):Tells w [.s x] [x.toV]:=⟨.sc x .nil,fun c hc=>by rw [List.mem_singleton.1 hc]; rfl,rfl⟩
theorem lies_flat {b c:Nat}:∀(qs:List (List Value)) (off:Nat),(∀i q,qs[i]? = some q→w.cells? 0 ⟨b,off + i * c,none⟩ c=some q)→∀j v,qs.flatten[j]? = some v→w.cell? ⟨b,off + j,none⟩=some v
  | [],off,_,j,v,h=>by simp at h
  | q :: qs,off,hall,j,v,h=>by
    have hk:=hall 0 q rfl
    rw [Nat.zero_mul,Nat.add_zero] at hk
    have hs:=World.cells?_some hk
    rw [List.flatten_cons] at h
    by_cases hj:j < c
    · rw [List.getElem?_append_left (by omega)] at h
      have:=hs.2.2 j hj
      rw [Addr.add_lit] at this
      rw [this]; exact h
    · rw [List.getElem?_append_right (by omega),hs.2.1] at h
      have:=lies_flat qs (off + c) (fun i q hi=>by
        have:=hall (i + 1) q (by simpa using hi)
        rw [show off + c + i * c=off + (i + 1) * c by rw [Nat.add_mul]; omega]
        exact this) (j - c) v h
      rwa [show off + c + (j - c)=off + j by omega] at this
theorem choose_list {β:Type} {n:Nat} {p:Nat→β→Prop} (h:∀i,i < n→∃b,p i b):∃l:List β,l.length=n∧∀i b,l[i]? = some b→p i b:=by
  induction n with
  | zero=>exact ⟨[],rfl,fun i b h=>by simp at h⟩
  | succ n ih =>
    obtain ⟨l,hl,hall⟩:=ih fun i hi=>h i (by omega)
    obtain ⟨b,hb⟩:=h n (by omega)
    refine ⟨l ++ [b],by simp [hl],fun i c hc => ?_⟩
    by_cases hi:i < l.length
    · rw [List.getElem?_append_left hi] at hc; exact hall i c hc
    · rw [List.getElem?_append_right (by omega)] at hc
      have:i=n:=by
        have:=(List.getElem?_eq_some_iff.1 hc).1
        simp at this; omega
      subst this
      rw [hl,Nat.sub_self] at hc
      injection hc with hc; subst hc; exact hb
def elemA (ag:Bool) (azz:List AV):AV:=match ag with
  | true => .agg azz
  | false=>azz.getD 0 .undef
theorem elemA_cells {w:World} {ag:Bool} {azz:List AV} {cs:List Value} (h:Tells w azz cs) (hl:ag=true∨azz.length=1):(elemA ag azz).cells=azz:=by
  cases ag with
  | true=>rfl
  | false =>
    obtain ⟨a,rfl⟩:=List.length_eq_one_iff.1 (hl.resolve_left (by simp))
    have hc:=h.cell a (by simp)
    show a.cells=[a]
    cases a <;> simp [AV.isCell] at hc <;> rfl
theorem elemA_low {w:World} {ag:Bool} {azz:List AV} {cs:List Value} (h:Tells w azz cs) (hl:ag=true∨azz.length=1):AV.under 0 (elemA ag azz)=true:=by
  cases ag with
  | true=>exact h.low
  | false =>
    obtain ⟨a,rfl⟩:=List.length_eq_one_iff.1 (hl.resolve_left (by simp))
    have:=h.low
    simpa [elemA,AV.under.go] using this
theorem trod_struct_shp {d m tot : Nat} {cs : List Value} (ih : ∀ t, plainT P d t = true → ∀ N cs x, DataW.trod enc P w 0 sp held N t cs = some x → ∃ azz, shp P d t azz ∧ Tells w azz cs) (htot : cs.length = tot) :
    ∀(l:List Field) (o:Nat),contig P l o tot=true→(l.all fun f=>plainT P d f.type)=true→(∀f∈l,∃x,DataW.trod enc P w 0 sp held m f.type ((cs.drop f.offset).take (P.cellsOf f.type))=some x) →
    ∃azz,l.foldr (fun f (Q:List AV→Prop) azz=>∃a b,azz=a ++ b∧shp P d f.type a∧Q b) (fun azz=>azz=[]) azz∧Tells w azz (cs.drop o)
  | [],o,hc,_,_=>by
    have:o=tot:=by simpa [contig] using hc
    subst this
    rw [List.drop_of_length_le (by omega)]
    exact ⟨[],rfl,.nil⟩
  | f :: l,o,hc,hp,hall=>by
    simp only [contig,Bool.and_eq_true,beq_iff_eq] at hc
    simp only [List.all_cons,Bool.and_eq_true] at hp
    obtain ⟨x,hx⟩:=hall f List.mem_cons_self
    obtain ⟨a,ha,hta⟩:=ih _ hp.1 _ _ _ hx
    obtain ⟨b,hb,htb⟩:=trod_struct_shp ih htot l _ hc.2 hp.2 fun g hg=>hall g (List.mem_cons_of_mem _ hg)
    refine ⟨a ++ b,⟨a,b,rfl,ha,hb⟩,?_⟩
    rw [hc.1] at hta
    have:cs.drop o=(cs.drop o).take (P.cellsOf f.type) ++ cs.drop (o + P.cellsOf f.type):=by
      rw [←List.drop_drop,List.take_append_drop]
    rw [this]
    exact hta.app htb
theorem flat_parts {c:Nat}:∀(m:Nat) (cs:List Value),cs.length=m * c→((List.range m).map fun i=>(cs.drop (i * c)).take c).flatten=cs
  | 0,cs,h=>by simp at h; subst h; rfl
  | m + 1,cs,h=>by
    rw [List.range_succ_eq_map,List.map_cons,List.map_map,List.flatten_cons,Nat.zero_mul,List.drop_zero]
    have:=flat_parts (c:=c) m (cs.drop c) (by rw [List.length_drop,h,Nat.add_mul]; omega)
    have e:((fun i=>(cs.drop (i * c)).take c) ∘ Nat.succ)=fun i=>((cs.drop c).drop (i * c)).take c:=by
      funext i
      simp only [Function.comp,List.drop_drop,Nat.succ_eq_add_one,Nat.add_mul,Nat.one_mul]
      rw [Nat.add_comm c]
    rw [e,this,List.take_append_drop]
theorem trod_shp:∀(d:Nat) (t:TypeId),plainT P d t=true→∀(N:Nat) (cs:List Value) (x:DataW H×List MemPlace),DataW.trod enc P w 0 sp held N t cs=some x→∃azz,shp P d t azz∧Tells w azz cs
  | 0,t,h,_,_,_,_=>by simp [plainT] at h
  | d + 1,t,h,N,cs,x,hx=>by
    have ih:=trod_shp d
    unfold plainT at h
    unfold shp
    cases hu:P.underlying t with
    | none=>rw [hu] at h; cases h
    | some D =>
      rw [hu] at h
      cases D with
      | bool =>
        obtain ⟨b,rfl,_⟩:=DataW.trod_bool hu hx
        exact ⟨_,⟨b,rfl⟩,.sc (.bool b)⟩
      | int k =>
        obtain ⟨n,rfl,_,hw⟩:=DataW.trod_int hu hx
        exact ⟨_,⟨n,rfl,hw⟩,.sc (.int k n)⟩
      | string =>
        obtain ⟨s,rfl,_,hl⟩:=DataW.trod_string hu hx
        refine ⟨_,⟨s.data.toList,rfl,by simpa using hl⟩,?_⟩
        have:=Tells.sc (w:=w) (.str s.data.toList)
        simpa [Sc.toV] using this
      | slice e =>
        simp only [Bool.and_eq_true,decide_eq_true_eq,Bool.or_eq_true,beq_iff_eq] at h
        obtain ⟨⟨hpos,hag⟩,hpe⟩:=h
        rcases DataW.trod_slice hu hx with ⟨rfl,_⟩ | ⟨a,len,cap,elems,rest,n,_,rfl,_,_,hle,hcap,hlen,hel,_,_⟩
        · exact ⟨_,⟨[],rfl,Nat.zero_le _,fun _ h=>by cases h⟩,⟨.lnil hpos .nil,fun c hc=>by rw [List.mem_singleton.1 hc]; rfl,rfl⟩⟩
        · have each:∀i,i < len→∃z:List Value×List AV,w.cells? 0 (a.add (i * P.cellsOf e)) (P.cellsOf e)=some z.1∧shp P d e z.2∧Tells w z.2 z.1:=fun i hi=>by
            have h1:=hel i hi
            rw [List.getElem?_eq_getElem (by omega)] at h1
            obtain ⟨q,hq,hq2⟩:=Option.bind_eq_some_iff.1 h1
            obtain ⟨azz,h2,h3⟩:=ih e hpe _ _ _ hq2
            exact ⟨(q,azz),hq,h2,h3⟩
          obtain ⟨l,hl,hall⟩:=choose_list each
          have hin:∀z∈l,(∃i,w.cells? 0 (a.add (i * P.cellsOf e)) (P.cellsOf e)=some z.1)∧shp P d e z.2∧Tells w z.2 z.1:=fun z hz=>by
            obtain ⟨i,hi⟩:=List.getElem?_of_mem hz
            exact ⟨⟨i,(hall i z hi).1⟩,(hall i z hi).2⟩
          have hone:∀z∈l,z.2.length=P.cellsOf e:=fun z hz=>by
            obtain ⟨⟨i,h1⟩,_,h2⟩:=hin z hz
            rw [←h2.vl.length]; exact (World.cells?_some h1).2.1
          have hag':∀z∈l,isAgg P e=true∨z.2.length=1:=fun z hz=>hag.imp id fun h=>by rw [hone z hz,h]
          let es:List AV:=l.map fun z=>elemA (isAgg P e) z.2
          have hcells:es.flatMap AV.cells=(l.map (·.2)).flatten:=by
            have:∀(l':List (List Value×List AV)),(∀z∈l',z∈l)→(l'.map fun z=>elemA (isAgg P e) z.2).flatMap AV.cells=(l'.map (·.2)).flatten:=by
              intro l'
              induction l' with
              | nil=>intro _; rfl
              | cons z l' ihl =>
                intro hs
                rw [List.map_cons,List.flatMap_cons,List.map_cons,List.flatten_cons,ihl fun y hy=>hs y (List.mem_cons_of_mem _ hy)]
                have hz:=hs z List.mem_cons_self
                rw [elemA_cells (hin z hz).2.2 (hag' z hz)]
            exact this l fun _ h=>h
          have hspot:es=[]∨a.spot=none:=by
            by_cases h0:len=0
            · left; apply List.length_eq_zero_iff.1; simp [es,hl,h0]
            · right
              obtain ⟨z,hz,_⟩:=each 0 (by omega)
              have h1:=(World.cells?_some hz).2.2 0 hpos
              have h2:(a.add (0 * P.cellsOf e)).add 0=a:=by simp [Addr.add]
              rw [h2,List.getElem?_eq_getElem (by rw [(World.cells?_some hz).2.1]; exact hpos)] at h1
              unfold World.cell? at h1
              split at h1
              · split at h1
                · cases h1
                · rename_i h3; simpa using h3
              · cases h1
          have htell:Tells w (l.map (·.2)).flatten (l.map (·.1)).flatten:=Tells.flat (by simp) fun i p q hp hq=>by
            rw [List.getElem?_map] at hp hq
            cases hz:l[i]? with
            | none=>rw [hz] at hp; cases hp
            | some z =>
              rw [hz] at hp hq
              injection hp with hp; injection hq with hq; subst hp; subst hq
              exact (hall i z hz).2.2
          refine ⟨_,⟨es,rfl,by simp [es,hl]; omega,fun y hy => ?_⟩,⟨?_,fun c hc=>by rw [List.mem_singleton.1 hc]; rfl,rfl⟩⟩
          · obtain ⟨z,hz,rfl⟩:=List.mem_map.1 hy
            rw [elemA_cells (hin z hz).2.2 (hag' z hz)]
            refine ⟨(hin z hz).2.1,fun h=>by rw [h]; rfl,fun h => ?_⟩
            obtain ⟨a,ha⟩:=List.length_eq_one_iff.1 ((hag' z hz).resolve_left (by rw [h]; simp))
            rw [ha,h]; rfl
          · refine .list (xs:=(l.map (·.1)).flatten) (.inl rfl) (by simp [es,hl]) hle hpos hspot (fun y hy => ?_) ?_ (by rw [hcells]; exact htell.vl) (fun i v hv=>⟨?_,fun h=>(show False from h)⟩) .nil
            · obtain ⟨z,hz,rfl⟩:=List.mem_map.1 hy
              rw [elemA_cells (hin z hz).2.2 (hag' z hz)]
              exact ⟨hone z hz,(hin z hz).2.2.cell⟩
            · refine under_mem.2 fun y hy => ?_
              obtain ⟨z,hz,rfl⟩:=List.mem_map.1 hy
              exact elemA_low (hin z hz).2.2 (hag' z hz)
            · rcases hspot with h0 | h0
              · have:l=[]:=by simpa [es] using h0
                rw [this] at hv; simp at hv
              · obtain ⟨ab,ao,azz⟩:=a
                dsimp only at h0; subst h0
                refine lies_flat (c:=P.cellsOf e) _ ao (fun j q hq => ?_) i v hv
                rw [List.getElem?_map] at hq
                cases hz:l[j]? with
                | none=>rw [hz] at hq; cases hq
                | some z =>
                  rw [hz] at hq
                  injection hq with hq; subst hq
                  have:=(hall j z hz).1
                  rwa [Addr.add_lit] at this
      | struct fs =>
        simp only [Bool.and_eq_true] at h
        obtain ⟨xs,n,_,_,hl,hxl,hf⟩:=DataW.trod_struct hu hx
        obtain ⟨azz,h1,h2⟩:=trod_struct_shp (m:=n) ih hl fs.toList 0 h.1 h.2 fun f hm=>by
          obtain ⟨i,hi⟩:=List.getElem?_of_mem hm
          have hi':fs[i]? = some f:=by simpa using hi
          have:=hf i f hi'
          have hlt:=(Array.getElem?_eq_some_iff.1 hi').1
          rw [List.getElem?_eq_getElem (by omega)] at this
          exact ⟨_,this⟩
        exact ⟨azz,h1,by simpa using h2⟩
      | array m e =>
        simp only [Bool.and_eq_true,beq_iff_eq] at h
        obtain ⟨xs,n,_,_,hl,hxl,hf⟩:=DataW.trod_array hu hx
        obtain ⟨ps,hpl,hall⟩:=choose_list (n:=m) (p:=fun i azz=>shp P d e azz∧Tells w azz ((cs.drop (i * P.cellsOf e)).take (P.cellsOf e))) fun i hi=>by
          have:=hf i hi
          rw [List.getElem?_eq_getElem (by omega)] at this
          exact ih e h.2 _ _ _ this
        refine ⟨ps.flatten,⟨ps,hpl,rfl,fun p hp => ?_⟩,?_⟩
        · obtain ⟨i,hi⟩:=List.getElem?_of_mem hp
          exact (hall i p hi).1
        · rw [←flat_parts (c:=P.cellsOf e) m cs (by rw [hl,h.1])]
          refine Tells.flat (by simp [hpl]) fun i p q hp hq => ?_
          have hlt:i < m:=by have:=(List.getElem?_eq_some_iff.1 hp).1; omega
          have:q=(cs.drop (i * P.cellsOf e)).take (P.cellsOf e):=by
            rw [List.getElem?_map,List.getElem?_range hlt] at hq
            injection hq with hq; exact hq.symm
          subst this
          exact (hall i p hp).2
      | _=>cases h
def argA (ag:Bool) (azz:List AV):AV:=elemA ag azz
theorem trod_arg {d : Nat} {t : TypeId} {v : Value} {D : DataW H} {ps : List MemPlace} (hp : plainT P d t = true) (hok : Value.okWide P w .any 0 t v) (h : DataW.Trod enc P w 0 sp held t v D ps) :
    ∃azz,shp P d t azz∧V G.none w (argA (isAgg P t) azz) v:=by
  obtain ⟨n,hn⟩:=h
  obtain ⟨azz,h1,h2⟩:=trod_shp d t hp n _ _ hn
  refine ⟨azz,h1,?_⟩
  cases hu:P.underlying t with
  | none =>
    cases d with
    | zero=>simp [plainT] at hp
    | succ d=>rw [plainT,hu] at hp; cases hp
  | some D =>
    have scalar:isAgg P t=false→(∀xs,v≠.agg xs)→V G.none w (argA (isAgg P t) azz) v:=fun hf hv=>by
      rw [hf]
      have e:v.cells.toList=[v]:=by
        cases v <;> first | rfl | exact (hv _ rfl).elim
      rw [e] at h2
      obtain ⟨a,as',rfl,h3,h4⟩:∃a as',azz=a :: as'∧V G.none w a v∧VL G.none w as' []:=by
        cases azz with
        | nil=>have:=h2.vl.length; simp at this
        | cons a as' =>
          obtain ⟨v',vs',hh,h3,h4⟩:=h2.vl.cons_left
          injection hh with hh1 hh2; subst hh1; subst hh2
          exact ⟨a,as',rfl,h3,h4⟩
      exact h3
    cases D with
    | struct fs =>
      simp only [Value.okWide,hu] at hok
      obtain ⟨cs,rfl,_,_⟩:=hok
      rw [show isAgg P t=true by simp [isAgg,hu]]
      exact .agg h2.cell (by simpa [Value.cells] using h2.vl) .nil
    | array m e =>
      simp only [Value.okWide,hu] at hok
      obtain ⟨cs,rfl,_,_⟩:=hok
      rw [show isAgg P t=true by simp [isAgg,hu]]
      exact .agg h2.cell (by simpa [Value.cells] using h2.vl) .nil
    | _ =>
      refine scalar (by simp [isAgg,hu]) fun xs hv => ?_
      subst hv
      simp [Value.okWide,Cell.okWide,Cell.ok,hu] at hok
end
end Go.AM
namespace Go.AM
open Go
section
variable {P:Program}
def parts (P:Program) (d:Nat):List TypeId→List AV→Prop
  | [],azz=>azz=[]
  | u :: ts,azz=>∃a b,azz=a ++ b∧shp P d u a∧parts P d ts b
theorem parts_of {d:Nat}:∀{fs:List Field} {azz:List AV},fs.foldr (fun f (Q:List AV→Prop) azz=>∃a b,azz=a ++ b∧shp P d f.type a∧Q b) (fun azz=>azz=[]) azz→parts P d (fs.map (·.type)) azz
  | [],_,h=>h
  | f :: fs,azz,h=>by
    obtain ⟨a,b,h1,h2,h3⟩:=h
    exact ⟨a,b,h1,h2,parts_of h3⟩
theorem shp_struct {d:Nat} {t:TypeId} {fs:Array Field} {ts:List TypeId} {azz:List AV} (ht:P.underlying t=some (.struct fs)) (hts:fs.toList.map (·.type)=ts) (h:shp P (d + 1) t azz):parts P d ts azz:=by
  unfold shp at h
  rw [ht] at h
  subst hts
  exact parts_of h
theorem shp_int {d:Nat} {t:TypeId} {k:IntKind} {azz:List AV} (ht:P.underlying t=some (.int k)) (h:shp P (d + 1) t azz):∃i,azz=[.s (.int k i)]∧(Lit.int k i).wf=true:=by
  unfold shp at h; rw [ht] at h; exact h
theorem shp_bool {d:Nat} {t:TypeId} {azz:List AV} (ht:P.underlying t=some .bool) (h:shp P (d + 1) t azz):∃b,azz=[.s (.bool b)]:=by
  unfold shp at h; rw [ht] at h; exact h
theorem shp_str {d:Nat} {t:TypeId} {azz:List AV} (ht:P.underlying t=some .string) (h:shp P (d + 1) t azz):∃l,azz=[.s (.str l)]∧l.length≤maxLen:=by
  unfold shp at h; rw [ht] at h; exact h
theorem shp_u8 {d:Nat} {t:TypeId} {azz:List AV} (ht:P.underlying t=some (.int .u8)) (h:shp P (d + 1) t azz):∃b:UInt8,azz=[u8 b]:=by
  obtain ⟨i,rfl,hw⟩:=shp_int ht h
  have:=bounds_u8 hw
  refine ⟨UInt8.ofNat i.toNat,?_⟩
  have:((UInt8.ofNat i.toNat).toNat:Int)=i:=by rw [UInt8.toNat_ofNat']; omega
  show _=[AV.s (.int .u8 _)]
  rw [this]
theorem shp_key {d:Nat} {t u:TypeId} {azz:List AV} (ht:P.underlying t=some (.array 16 u)) (hu:P.underlying u=some (.int .u8)) (h:shp P (d + 2) t azz):∃k:Key,azz=bs k.b:=by
  unfold shp at h; rw [ht] at h
  obtain ⟨ps,hl,rfl,hall⟩:=h
  obtain ⟨l,rfl⟩:=of_each (f:=fun b=>[u8 b]) ps fun p hp=>shp_u8 hu (hall p hp)
  refine ⟨⟨l,by simpa using hl⟩,?_⟩
  show _=l.map u8
  clear hl hall
  induction l with
  | nil=>rfl
  | cons b l ih=>simp only [List.map_cons,List.flatten_cons,ih]; rfl
theorem shp_wr {d : Nat} {t tk u ts tb : TypeId} {fs : Array Field} {azz : List AV} (ht : P.underlying t = some (.struct fs)) (hf : fs.toList.map (·.type) = [tk, ts, tb]) (hk : P.underlying tk = some (.array 16 u)) (hu : P.underlying u = some (.int .u8)) (hs : P.underlying ts = some .string) (hb : P.underlying tb = some .bool)
    (h:shp P (d + 3) t azz):∃w:Wr,azz=wc w:=by
  obtain ⟨a,r,rfl,h1,a2,r2,rfl,h2,a3,r3,rfl,h3,rfl⟩:=shp_struct ht hf h
  obtain ⟨k,rfl⟩:=shp_key hk hu h1
  obtain ⟨l,rfl,_⟩:=shp_str hs h2
  obtain ⟨b,rfl⟩:=shp_bool hb h3
  exact ⟨⟨k,l,b⟩,rfl⟩
end
end Go.AM
namespace Go.AM
open Go
section
variable {P:Program}
theorem shp_stamp {d:Nat} {t ti tn:TypeId} {fs:Array Field} {azz:List AV} (ht:P.underlying t=some (.struct fs)) (hf:fs.toList.map (·.type)=[ti,tn]) (hi:P.underlying ti=some (.int .i64)) (hn:P.underlying tn=some (.int .u8)) (h:shp P (d + 2) t azz):∃s:Stp,azz=stc s:=by
  obtain ⟨a,r,rfl,h1,a2,r2,rfl,h2,rfl⟩:=shp_struct ht hf h
  obtain ⟨i,rfl,_⟩:=shp_int hi h1
  obtain ⟨b,rfl⟩:=shp_u8 hn h2
  exact ⟨⟨i,b⟩,rfl⟩
end
end Go.AM
namespace Go.AM
open Go
variable {P:Program}
theorem wT {α:Type} {p:α→Prop} (h:∃x,p x):∃x,p x∧True:=h.imp fun _ e=>⟨e,trivial⟩
theorem of_eachQ {α:Type} {f:α→AV} {Q:α→Prop}:∀(es:List AV),(∀x∈es,∃a,x=f a∧Q a)→∃l:List α,es=l.map f∧∀a∈l,Q a
  | [],_=>⟨[],rfl,fun a h=>by cases h⟩
  | x :: es,h=>by
    obtain ⟨a,rfl,hq⟩:=h x (List.mem_cons_self ..)
    obtain ⟨l,rfl,hl⟩:=of_eachQ es fun y hy=>h y (List.mem_cons_of_mem _ hy)
    exact ⟨a :: l,rfl,fun b hb=>by rcases List.mem_cons.1 hb with rfl | hb; exact hq; exact hl b hb⟩
theorem shp_sliceQ {d : Nat} {t e : TypeId} {c : Nat} {azz : List AV} {α : Type} (f : α → AV) (Q : α → Prop) (ht : P.underlying t = some (.slice e)) (hc : P.cellsOf e = c) (he : ∀ x : AV, shp P d e x.cells → (isAgg P e = true → x = .agg x.cells) → (isAgg P e = false → x.cells = [x]) → ∃ a, x = f a ∧ Q a) (h : shp P (d + 1) t azz) :
    ∃l:List α,azz=[.list .sh c (l.map f)]∧l.length≤9223372036854775807∧∀a∈l,Q a:=by
  subst hc
  unfold shp at h; rw [ht] at h
  obtain ⟨es,rfl,hl,hall⟩:=h
  obtain ⟨l,rfl,hq⟩:=of_eachQ (f:=f) es fun x hx=>he x (hall x hx).1 (hall x hx).2.1 (hall x hx).2.2
  refine ⟨l,rfl,?_,hq⟩
  rw [List.length_map] at hl
  unfold maxLen at hl; omega
theorem shp_i64 {d:Nat} {t:TypeId} {azz:List AV} (ht:P.underlying t=some (.int .i64)) (h:shp P (d + 1) t azz):∃i:Int,azz=[.s (.int .i64 i)]∧-9223372036854775808≤i∧i≤9223372036854775807:=by
  obtain ⟨i,rfl,hw⟩:=shp_int ht h
  refine ⟨i,rfl,?_⟩
  unfold Lit.wf at hw
  rw [Bool.and_eq_true] at hw
  have h1:=of_decide_eq_true hw.1
  have h2:=of_decide_eq_true hw.2
  simp [IntKind.min,IntKind.max,IntKind.signed,IntKind.bits] at h1 h2
  omega
theorem shp_strQ {d:Nat} {t:TypeId} {azz:List AV} (ht:P.underlying t=some .string) (h:shp P (d + 1) t azz):∃l:List UInt8,azz=[.s (.str l)]∧l.length≤9223372036854775807:=by
  obtain ⟨l,rfl,hl⟩:=shp_str ht h
  refine ⟨l,rfl,?_⟩
  unfold maxLen at hl; omega
end Go.AM
