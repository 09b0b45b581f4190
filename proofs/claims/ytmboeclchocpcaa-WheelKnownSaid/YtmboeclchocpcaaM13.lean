import Derived.Test.YtmboeclchocpcaaM12
set_option linter.unusedSimpArgs false
set_option linter.unusedVariables false
namespace Go.AM
open Go
set_option maxRecDepth 20000
def NewWS (C:CallW) (f:FuncId):Prop:=∀(room:Int) S H (K:AV→St→Prop),(room < 1∨1000 < room→K (.tup [.s .nilP,.s (.int .i64 1)]) ⟨S,H⟩)→(1≤room→room≤1000→WhX (H ++ [.map [] 0,.cells (wlc room 0 H.length)]) (H.length + 1) H.length room 0 []→K (.tup [.ptr (.heap (H.length + 1)) 0,.s (.int .i64 0)]) ⟨S,H ++ [.map [] 0,.cells (wlc room 0 H.length)]⟩)→C (.fn f) [.s (.int .i64 room)] ⟨S,H⟩ K
theorem newW {H:List HObj} {room:Int} (h1:1≤room) (h2:room≤1000):WhX (H ++ [.map [] 0,.cells (wlc room 0 H.length)]) (H.length + 1) H.length room 0 [] :=
  ⟨by simp,⟨[],0,by simp,⟨rfl,.nil,fun e h=>by cases h⟩⟩,.nil,by simp; omega,h2,by omega⟩
theorem wheel_New_spec {C:CallW} (P:Program):∀(room:Int) S H (K:AV→St→Prop),(room < 1∨1000 < room→K (.tup [.s .nilP,.s (.int .i64 1)]) ⟨S,H⟩)→(1≤room→room≤1000→WhX (H ++ [.map [] 0,.cells (wlc room 0 H.length)]) (H.length + 1) H.length room 0 []→K (.tup [.ptr (.heap (H.length + 1)) 0,.s (.int .i64 0)]) ⟨S,H ++ [.map [] 0,.cells (wlc room 0 H.length)]⟩)→runL C P Cz32 [.s (.int .i64 room)] ⟨S,H⟩ K:=by
  intro room S H K h1 h2
  by_cases a:room < 1
  · simp only [Cz32,A_,simprocAttr,ne_eq,Uz4l.1,a]
    exact h1 (.inl a)
  by_cases b:1000 < room
  · simp only [Cz32,A_,simprocAttr,ne_eq,Uz4l.1,a,b]
    exact h1 (.inr b)
  · have:=h2 (by omega) (by omega) (newW (by omega) (by omega))
    simp only [Cz32,A_,simprocAttr,ne_eq,Uz4l.1,a,b]
    exact this
def setW (room now:Int) (l:List (Int×Int)) (id at_:Int):Int×List (Int×Int):=if at_≤now then (10,l) else if hasW l id=false∧room≤(l.length:Int) then (6,l) else (0,putB Prod.fst l (id,at_))
def SetWS (C:CallW) (f:FuncId):Prop:=∀(h hm:Nat) (room now:Int) (l:List (Int×Int)) (id at_:Int) S H (K:AV→St→Prop),WhX H h hm room now l→(∀H',Ext H H' h hm→WhX H' h hm room now (setW room now l id at_).2→K (.s (.int .i64 (setW room now l id at_).1)) ⟨S,H'⟩)→C (.fn f) [.ptr (.heap h) 0,.s (.int .i64 id),.s (.int .i64 at_)] ⟨S,H⟩ K
theorem putB_len {l:List (Int×Int)} {x:Int×Int}:(putB Prod.fst l x).length=if hasW l x.1 then l.length else l.length + 1:=by
  unfold putB hasW
  cases getB Prod.fst l x.1 <;> simp
theorem putB_nd {l:List (Int×Int)} {x:Int×Int} (h:(l.map Prod.fst).Nodup):((putB Prod.fst l x).map Prod.fst).Nodup:=by
  unfold putB
  cases hg:getB Prod.fst l x.1 with
  | none =>
    have:=getB_none hg
    rw [List.map_append,List.nodup_append]
    exact ⟨h,by simp,fun a ha b hb e=>by
      obtain ⟨y,hy,rfl⟩:=List.mem_map.1 ha
      have hb:b=x.1:=by simpa using hb
      exact this y hy (e.trans hb)⟩
  | some y =>
    have:(l.map fun y=>if y.1=x.1 then x else y).map Prod.fst=l.map Prod.fst:=by
      rw [List.map_map]
      refine List.map_congr_left fun z _ => ?_
      dsimp only [Function.comp]
      split
      · rename_i e; exact e.symm
      · rfl
    dsimp only
    rw [this]; exact h
set_option maxHeartbeats 4000000 in
theorem wheel_Set_spec {C:CallW} (P:Program):∀(h hm:Nat) (room now:Int) (l:List (Int×Int)) (id at_:Int) S H (K:AV→St→Prop),WhX H h hm room now l→(∀H',Ext H H' h hm→WhX H' h hm room now (setW room now l id at_).2→K (.s (.int .i64 (setW room now l id at_).1)) ⟨S,H'⟩)→runL C P Cz22 [.ptr (.heap h) 0,.s (.int .i64 id),.s (.int .i64 at_)] ⟨S,H⟩ K:=by
  intro h hm room now l id at_ S H K t hK
  have a0:=t.at0
  unfold wlc at a0
  have lk:=fun S'=>t.look2 (S:=S') id
  have ll:=fun S'=>t.lenm (S:=S')
  by_cases h1:at_≤now
  · have e:setW room now l id at_=(10,l):=if_pos h1
    rw [e] at hK
    simp only [Cz22,A_,simprocAttr,ne_eq,Uz2g.1,CHK_,Nat.reduceBEq,a0,lk,h1]
    exact hK H .refl t
  obtain ⟨es,c,a1,g⟩:=t.atm
  obtain ⟨es',c2,u,g'⟩:=g.upd keyK_int (x:=(id,at_)) a1 t.nd rfl
  have u:∀S',updateL (.one (.int .i64)) (.map hm) (.s (.int .i64 id)) (.s (.int .i64 at_)) ⟨S',H⟩=some ⟨S',H.set hm (.map es' c2)⟩:=u
  have go:¬(hasW l id=false∧room≤(l.length:Int))→setW room now l id at_=(0,putB Prod.fst l (id,at_))∧WhX (H.set hm (.map es' c2)) h hm room now (putB Prod.fst l (id,at_)):=by
    intro q
    refine ⟨by unfold setW; rw [if_neg h1,if_neg q],t.setm g' (putB_nd t.nd) ?_⟩
    rw [putB_len]
    split
    · exact t.len
    · rename_i q2
      have:¬(room≤(l.length:Int)):=fun q3=>q ⟨by simpa using q2,q3⟩
      omega
  cases hh:hasW l id with
  | true =>
    obtain ⟨e,t2⟩:=go (by rw [hh]; simp)
    rw [hh] at lk
    rw [e] at hK
    simp only [Cz22,A_,simprocAttr,ne_eq,Uz2g.1,CHK_,Nat.reduceBEq,a0,lk,h1,u]
    exact hK _ .set2 t2
  | false =>
    rw [hh] at lk
    by_cases h2:room≤(l.length:Int)
    · have e:setW room now l id at_=(6,l):=by unfold setW; rw [if_neg h1,if_pos ⟨hh,h2⟩]
      rw [e] at hK
      simp only [Cz22,A_,simprocAttr,ne_eq,Uz2g.1,CHK_,Nat.reduceBEq,a0,lk,ll,h1,h2]
      exact hK H .refl t
    · obtain ⟨e,t2⟩:=go (fun q=>h2 q.2)
      rw [e] at hK
      simp only [Cz22,A_,simprocAttr,ne_eq,Uz2g.1,CHK_,Nat.reduceBEq,a0,lk,ll,h1,h2,u]
      exact hK _ .set2 t2
def delW (l:List (Int×Int)) (id:Int):List (Int×Int):=l.filter fun x=>decide (x.1≠id)
theorem delW_nd {l:List (Int×Int)} {id:Int} (h:(l.map Prod.fst).Nodup):((delW l id).map Prod.fst).Nodup:=h.sublist (List.Sublist.map _ List.filter_sublist)
theorem delW_len {l:List (Int×Int)} {id:Int}:(delW l id).length≤l.length:=List.length_filter_le _ _
theorem WhX.del {H:List HObj} {h hm:Nat} {room now:Int} {l:List (Int×Int)} (t:WhX H h hm room now l) (id:Int):∃es c,(∀S:List (List AV),deleteL (.one (.int .i64)) (.map hm) (.s (.int .i64 id)) ⟨S,H⟩=some ⟨S,H.set hm (.map es c)⟩)∧WhX (H.set hm (.map es c)) h hm room now (delW l id):=by
  obtain ⟨es,c,a1,g⟩:=t.atm
  obtain ⟨es',hd,g'⟩:=g.del keyK_int (k:=id) a1 t.nd
  refine ⟨es',c,hd,t.setm g' (delW_nd t.nd) ?_⟩
  have:=delW_len (l:=l) (id:=id)
  have:=t.len
  show ((delW l id).length:Int)≤room
  omega
def CancS (C:CallW) (f:FuncId):Prop:=∀(h hm:Nat) (room now:Int) (l:List (Int×Int)) (id:Int) S H (K:AV→St→Prop),WhX H h hm room now l→(∀H',Ext H H' h hm→WhX H' h hm room now (delW l id)→K (.s (.bool (hasW l id))) ⟨S,H'⟩)→C (.fn f) [.ptr (.heap h) 0,.s (.int .i64 id)] ⟨S,H⟩ K
theorem wheel_Cancel_spec {C:CallW} (P:Program):∀(h hm:Nat) (room now:Int) (l:List (Int×Int)) (id:Int) S H (K:AV→St→Prop),WhX H h hm room now l→(∀H',Ext H H' h hm→WhX H' h hm room now (delW l id)→K (.s (.bool (hasW l id))) ⟨S,H'⟩)→runL C P Cz2h [.ptr (.heap h) 0,.s (.int .i64 id)] ⟨S,H⟩ K:=by
  intro h hm room now l id S H K t hK
  have a0:=t.at0
  unfold wlc at a0
  have lk:=fun S'=>t.look2 (S:=S') id
  obtain ⟨es,c,d,t2⟩:=t.del id
  simp only [Cz2h,A_,simprocAttr,ne_eq,Uz46.1,CHK_,Nat.reduceBEq,a0,lk,d]
  exact hK _ .set2 t2
def WLenS (C:CallW) (f:FuncId):Prop:=∀(h hm:Nat) (room now:Int) (l:List (Int×Int)) S H (K:AV→St→Prop),WhX H h hm room now l→K (.s (.int .i64 (l.length:Nat))) ⟨S,H⟩→C (.fn f) [.ptr (.heap h) 0] ⟨S,H⟩ K
theorem wheel_Len_spec {C:CallW} (P:Program):∀(h hm:Nat) (room now:Int) (l:List (Int×Int)) S H (K:AV→St→Prop),WhX H h hm room now l→K (.s (.int .i64 (l.length:Nat))) ⟨S,H⟩→runL C P Cz2v [.ptr (.heap h) 0] ⟨S,H⟩ K:=by
  intro h hm room now l S H K t hK
  have a0:=t.at0
  unfold wlc at a0
  have ll:=fun S'=>t.lenm (S:=S')
  simp only [Cz2v,A_,simprocAttr,ne_eq,Uz4q.1,CHK_,Nat.reduceBEq,a0,ll]
  exact hK
def WNowS (C:CallW) (f:FuncId):Prop:=∀(h hm:Nat) (room now:Int) (l:List (Int×Int)) S H (K:AV→St→Prop),WhX H h hm room now l→K (.s (.int .i64 now)) ⟨S,H⟩→C (.fn f) [.ptr (.heap h) 0] ⟨S,H⟩ K
theorem wheel_Now_spec {C:CallW} (P:Program):∀(h hm:Nat) (room now:Int) (l:List (Int×Int)) S H (K:AV→St→Prop),WhX H h hm room now l→K (.s (.int .i64 now)) ⟨S,H⟩→runL C P Cz2w [.ptr (.heap h) 0] ⟨S,H⟩ K:=by
  intro h hm room now l S H K t hK
  have a0:=t.at0
  unfold wlc at a0
  simp only [Cz2w,A_,simprocAttr,ne_eq,Uz4r.1,CHK_,Nat.reduceBEq,a0]
  exact hK
end Go.AM
namespace Go.AM
open Go
open AV renaming undef → uu
set_option maxRecDepth 20000
def ValsS (C:CallW) (f g:FuncId):Prop:=∀(hm:Nat) S H (K:AV→St→Prop),K (.fn (.func g) [] [.ptr (.heap H.length) 0]) ⟨S,H ++ [.cells [.map hm]]⟩→C (.fn f) [.map hm] ⟨S,H⟩ K
theorem maps_Values_spec {C:CallW} (P:Program) {c:Nat→FuncId}:∀(hm:Nat) S H (K:AV→St→Prop),K (.fn (.func (c 0)) [] [.ptr (.heap H.length) 0]) ⟨S,H ++ [.cells [.map hm]]⟩→runL C P (Cz2k c) [.map hm] ⟨S,H⟩ K:=by
  intro hm S H K hK
  simp only [Cz2k,A_,simprocAttr,ne_eq]
  exact hK
def ValsItS (C:CallW) (g:FuncId):Prop:=∀(G:List Int→List HObj) (N h bx hm c:Nat) (es:List Entry) (x:Entry→Int) (S:List (List AV)) (K:AV→St→Prop),(∀acc,(G acc).length=N)→(∀acc,(G acc)[bx]? = some (.cells [.map hm]))→(∀acc,(G acc)[hm]? = some (.map es c))→(es.map (·.born)).Nodup→(∀e∈es,e.born < c)→(∀e∈es,e.val=iA (x e)) →
  (∀acc v it S' (K':AV→St→Prop),acc.length < es.length→K' (.bool true) ⟨S',G (acc ++ [v]) ++ [it]⟩→C (.yield h) [.s (.int .i64 v)] ⟨S',G acc ++ [it]⟩ K')→(∀acc it,acc.Perm (es.map x)→K (.tup []) ⟨S,G acc ++ [it]⟩)→C (.fn g) [.yield h,.ptr (.heap bx) 0] ⟨S,G []⟩ K
set_option maxHeartbeats 4000000 in
theorem maps_Values1_spec {C:CallW} (hC:LeC C C) (P:Program):∀(G:List Int→List HObj) (N h bx hm c:Nat) (es:List Entry) (x:Entry→Int) (S:List (List AV)) (K:AV→St→Prop),(∀acc,(G acc).length=N)→(∀acc,(G acc)[bx]? = some (.cells [.map hm]))→(∀acc,(G acc)[hm]? = some (.map es c))→(es.map (·.born)).Nodup→(∀e∈es,e.born < c)→(∀e∈es,e.val=iA (x e)) →
  (∀acc v it S' (K':AV→St→Prop),acc.length < es.length→K' (.bool true) ⟨S',G (acc ++ [v]) ++ [it]⟩→C (.yield h) [.s (.int .i64 v)] ⟨S',G acc ++ [it]⟩ K')→(∀acc it,acc.Perm (es.map x)→K (.tup []) ⟨S,G acc ++ [it]⟩)→runL C P Czy [.yield h,.ptr (.heap bx) 0] ⟨S,G []⟩ K:=by
  intro G N h bx hm c es x S K hN hbx hmp hnd hlt hkey hy hK
  have b0:=hbx []
  simp only [Czy,A_,simprocAttr,ne_eq,Uz14.1,b0]
  rw [opS_rng rfl (hmp [])]
  simp only [Czy,A_,simprocAttr,ne_eq,Uz14.1,hN]
  refine loop_rule hC (α:=List Entry) (fun vs=>es.length - vs.length) (fun vs=>[.yield h,uu,uu,uu,uu,uu,.ptr (.heap N) 0,uu,uu,uu,uu,uu,uu,uu,uu]) (fun _=>S) (fun vs=>G (vs.map x) ++ [.iter ⟨some hm,c,vs.map (·.born),c⟩]) (fun vs=>(vs.map (·.born)).Nodup∧∀e∈vs,e∈es) [] ⟨.nil,fun e h=>by cases h⟩ (by simp [keep,zm]) (by rw [List.take_of_length_le (Nat.le_refl _)]) rfl (fun a _=>by simp [AV.under,AV.under.go]) ?_
  rintro vs ⟨hvn,hvs⟩ ih
  have hit:(G (vs.map x) ++ [.iter ⟨some hm,c,vs.map (·.born),c⟩])[N]? = some (.iter ⟨some hm,c,vs.map (·.born),c⟩):=by rw [←hN (vs.map x)]; simp
  have hmm:∀o,(G (vs.map x) ++ [o])[hm]? = some (.map es c):=fun o=>happ (hmp _)
  simp only [Czy,A_,simprocAttr,ne_eq,Uz14.1]
  rw [opS_nxt rfl hit rfl (hmm _)]
  refine ⟨?_,fun hall => ?_,fun e he hns => ?_⟩
  · cases vs with
    | nil=>exact .inl rfl
    | cons v vs=>exact .inr (.inr ⟨v,hvs v List.mem_cons_self,hlt v (hvs v List.mem_cons_self)⟩)
  · have hp:vs.Perm es:=by
      refine (List.perm_ext_iff_of_nodup ?_ ?_).2 fun e=>⟨hvs e,fun he => ?_⟩
      · exact List.Pairwise.of_map (·.born) (fun a b h e=>h (by rw [e])) hvn
      · exact List.Pairwise.of_map (·.born) (fun a b h e=>h (by rw [e])) hnd
      · rcases hall e he with h1 | h1
        · rw [List.mem_map] at h1
          obtain ⟨v,hv,hb⟩:=h1
          have q1:=born_find hnd (hvs v hv)
          have q2:=born_find hnd he
          rw [hb,q2] at q1
          rw [Option.some.inj q1]; exact hv
        · have:=hlt e he
          exact absurd h1 (by dsimp only; omega)
    simp only [Czy,A_,simprocAttr,ne_eq,Uz14.1]
    exact hK _ _ (hp.map x)
  · have hk:=hkey e he
    have hset:∀o o':HObj,(G (vs.map x) ++ [o]).set N o'=G (vs.map x) ++ [o']:=fun o o'=>by rw [←hN (vs.map x)]; simp
    have hit2:(G (vs.map x) ++ [.iter ⟨some hm,c,vs.map (·.born) ++ [e.born],c⟩])[N]? = some (.iter ⟨some hm,c,vs.map (·.born) ++ [e.born],c⟩):=by rw [←hN (vs.map x)]; simp
    dsimp only
    rw [hset]
    have hll:vs.length < es.length:=by
      have hb:((vs ++ [e]).map (·.born)).Nodup:=by
        rw [List.map_append,List.nodup_append]
        exact ⟨hvn,by simp,fun a ha b hb=>by
          have:b=e.born:=by simpa using hb
          subst this
          exact fun e2=>hns (e2▸ha)⟩
      have hnd2:(vs ++ [e]).Nodup:=List.Pairwise.of_map (·.born) (fun a b h e=>h (by rw [e])) hb
      have h1:(vs ++ [e]).length≤es.length:=hnd2.length_le_of_subset fun z hz=>by
        rcases List.mem_append.1 hz with hz | hz
        · exact hvs z hz
        · have:z=e:=by simpa using hz
          rw [this]; exact he
      simp at h1; omega
    simp only [Czy,A_,simprocAttr,ne_eq,Uz14.1]
    rw [opS_ent rfl hit2 rfl (hmm _) (b:=e.born) (by simp) rfl (born_find hnd he),hk]
    simp only [iA,Czy,A_,simprocAttr,ne_eq,Uz14.1]
    refine hy _ (x e) _ _ _ (by simpa using hll) ?_
    simp only [Czy,A_,simprocAttr,ne_eq,Uz14.1]
    refine ih (vs ++ [e]) _ _ _ (by simp; omega) ⟨?_,fun z hz => ?_⟩ (by simp [keep,zm]) (by rw [List.take_of_length_le (Nat.le_refl _)]) (by simp)
    · rw [List.map_append,List.nodup_append]
      exact ⟨hvn,by simp,fun a ha b hb=>by
        have:b=e.born:=by simpa using hb
        subst this
        exact fun e2=>hns (e2▸ha)⟩
    · rcases List.mem_append.1 hz with hz | hz
      · exact hvs z hz
      · have:z=e:=by simpa using hz
        rw [this]; exact he
structure MapV (H:List HObj) (bx hm c:Nat) (es:List Entry) (x:Entry→Int):Prop where
  box:H[bx]? = some (.cells [.map hm])
  map:H[hm]? = some (.map es c)
  nd:(es.map (·.born)).Nodup
  lt:∀e∈es,e.born < c
  val:∀e∈es,e.val=iA (x e)
  len:es.length≤1000000
def AppSeqVS (C:CallW) (f g:FuncId):Prop:=∀(bx hm c:Nat) (es:List Entry) (x:Entry→Int) S H (K:AV→St→Prop),MapV H bx hm c es x→(∀acc G,acc.Perm (es.map x)→K (slZ acc) ⟨S,H ++ G⟩)→C (.fn f) [.s .nilS,.fn (.func g) [] [.ptr (.heap bx) 0]] ⟨S,H⟩ K
set_option maxHeartbeats 4000000 in
theorem AppendSeq_specV {C:CallW} (hC:LeC C C) (P:Program) {c:Nat→FuncId} {as1 bd1:Code} {g:FuncId} (h1:ValsItS C g) (hB:hasBody P g=true) (hR:RoundOK C P (c 0) as1 bd1 (Cz1i).code (Cz1j).code):∀(bx hm cc:Nat) (es:List Entry) (x:Entry→Int) S H (K:AV→St→Prop),MapV H bx hm cc es x→(∀acc G,acc.Perm (es.map x)→K (slZ acc) ⟨S,H ++ G⟩)→runL C P (Cz1u c as1 bd1) [.s .nilS,.fn (.func g) [] [.ptr (.heap bx) 0]] ⟨S,H⟩ K:=by
  intro bx hm cc es x S H K hM hK
  have st:=fun {S:List (List AV)} {a:AV} {es':List AV} {G:List HObj}=>store_kept (S:=S) (H:=H) (G:=G) (a:=a) (es:=es')
  simp only [Cz1u,A_,simprocAttr,ne_eq,(Uz27 _ _ _).1,hB]
  refine h1 (fun acc=>H ++ [.cells [slZ acc],.loop ⟨c 0,[.s .nilS,.fn (.func g) [] [.ptr (.heap bx) 0],.ptr (.heap H.length) 0,.undef,.s .nilS,.undef,.fn (.func g) [] [.ptr (.heap bx) 0],uu,uu,uu,uu,uu,uu],[7],as1,bd1,true,none⟩]) (H.length + 2) (H.length + 1) bx hm cc es x S _ (fun acc=>by simp) (fun acc=>happ hM.box) (fun acc=>happ hM.map) hM.nd hM.lt hM.val (fun acc v it S' K' hacc hK' => ?_) (fun acc it hp => ?_)
  · have ha:∀(e:ET) (σ:St),e.c=1→e.bytes=8→appendL e false (slZ acc) (.list .full 1 [.s (.int .i64 v)]) σ=some (.list .uniq 1 ((acc ++ [v]).map iA),σ):=fun e σ h1 h2=>app_slZ h1 h2 (by have:=hM.len; omega)
    rw [List.append_assoc]
    refine hR _ _ _ _ _ _ _ (by rw [app_get]; rfl) rfl ?_
    simp only [Cz1i,Cz1j,A_,simprocAttr,ne_eq,(Uz27 _ _ _).1,load_kept,ha,st]
    rw [List.append_assoc,slZ_snoc] at hK'
    exact hK'
  · rw [List.append_assoc]
    simp only [Cz1u,A_,simprocAttr,ne_eq,(Uz27 _ _ _).1,load_kept]
    exact ⟨slZ_under,hK _ _ hp⟩
theorem Collect_specV {C:CallW} (P:Program) {c:Nat→FuncId} {g:FuncId} (h0:AppSeqVS C (c 0) g):∀(bx hm cc:Nat) (es:List Entry) (x:Entry→Int) S H (K:AV→St→Prop),MapV H bx hm cc es x→(∀acc G,acc.Perm (es.map x)→K (slZ acc) ⟨S,H ++ G⟩)→runL C P (Cz25 c) [.fn (.func g) [] [.ptr (.heap bx) 0]] ⟨S,H⟩ K:=by
  intro bx hm cc es x S H K hM hK
  simp only [Cz25,A_,simprocAttr,ne_eq,(Uz2p _).1]
  refine h0 bx hm cc es x S H _ hM fun acc G hp => ?_
  simp only [Cz25,A_,simprocAttr,ne_eq,(Uz2p _).1]
  exact ⟨slZ_under,hK _ _ hp⟩
def CollVS (C:CallW) (f g:FuncId):Prop:=∀(bx hm c:Nat) (es:List Entry) (x:Entry→Int) S H (K:AV→St→Prop),MapV H bx hm c es x→(∀acc G,acc.Perm (es.map x)→K (slZ acc) ⟨S,H ++ G⟩)→C (.fn f) [.fn (.func g) [] [.ptr (.heap bx) 0]] ⟨S,H⟩ K
def SortedVS (C:CallW) (f g:FuncId):Prop:=∀(bx hm c:Nat) (es:List Entry) (x:Entry→Int) S H (K:AV→St→Prop),MapV H bx hm c es x→(∀ids G,ids.Perm (es.map x)→ids.Pairwise (·≤·)→K (lstZ ids) ⟨S,H ++ G⟩)→C (.fn f) [.fn (.func g) [] [.ptr (.heap bx) 0]] ⟨S,H⟩ K
set_option maxHeartbeats 4000000 in
theorem Sorted_specV {C:CallW} (P:Program) {c:Nat→FuncId} {g:FuncId} (h0:CollVS C (c 0) g) (h1:SortIS C (c 1)) (h1n:OneN C (c 1) (.tup [])):∀(bx hm cc:Nat) (es:List Entry) (x:Entry→Int) S H (K:AV→St→Prop),MapV H bx hm cc es x→(∀ids G,ids.Perm (es.map x)→ids.Pairwise (·≤·)→K (lstZ ids) ⟨S,H ++ G⟩)→runL C P (Czz c) [.fn (.func g) [] [.ptr (.heap bx) 0]] ⟨S,H⟩ (WkK K):=by
  intro bx hm cc es x S H K hM hK
  have hfz:∀(e:ET) (σ:St),freezeL e (.s .nilS) σ=some (.s .nilS,σ):=fun _ _=>rfl
  simp only [Czz,A_,simprocAttr,ne_eq,(Uz15 _).1]
  refine h0 bx hm cc es x S H _ hM fun acc G hp => ?_
  have hal:acc.length≤1000000:=by have:=hp.length_eq; rw [List.length_map] at this; have:=hM.len; omega
  by_cases e:acc=[]
  · subst e
    simp only [Czz,A_,simprocAttr,ne_eq,(Uz15 _).1]
    rw [thaw_slZ0 rfl]
    simp only [Czz,A_,simprocAttr,ne_eq,(Uz15 _).1]
    refine h1n _ _ _ ?_
    simp only [Czz,A_,simprocAttr,ne_eq,(Uz15 _).1,slZ_nil,hfz]
    exact ⟨_,.inr (.nilS (by omega) .nil),hK [] G hp .nil⟩
  · simp only [Czz,A_,simprocAttr,ne_eq,(Uz15 _).1]
    rw [thaw_slZ e rfl]
    have hS1:(S ++ [flat iA (arrZ acc)])[S.length]? = some (flat iA (arrZ acc)):=by simp
    simp only [Czz,A_,simprocAttr,ne_eq,(Uz15 _).1,List.set_cons_zero,List.set_cons_succ]
    refine h1 S.length (arrZ acc) _ _ _ hS1 (by show acc.length≤_; omega) fun R hR1 hR2 => ?_
    have hRs:R.size=acc.length:=hR1.1
    have hset:∀x y:List AV,(S ++ [x]).set S.length y=S ++ [y]:=fun x y=>by simp
    rw [hset]
    have hS2:(S ++ [flat iA R])[S.length]? = some (flat iA R):=by simp
    have hf:∀{e:ET},e.c=1→e.ag=false→freezeL e (.row (.stk S.length) 0 acc.length acc.length) ⟨S ++ [flat iA R],H ++ G⟩=_:=fun h1 h2=>freeze_i (H:=H ++ G) h1 h2 hS2 (by omega)
    simp only [hset] at hf
    rw [List.take_of_length_le (by simp [hRs])] at hf
    simp only [Czz,A_,simprocAttr,ne_eq,(Uz15 _).1,hf]
    exact ⟨_,.inl rfl,hK R.toList G ((sorted_perm hR1).trans hp) (sorted_le hRs hR2)⟩
theorem WhX.vals {H:List HObj} {h hm:Nat} {room now:Int} {l:List (Int×Int)} (t:WhX H h hm room now l):∃es c x,MapV (H ++ [.cells [.map hm]]) H.length hm c es x∧(es.map x).Perm (l.map Prod.snd):=by
  obtain ⟨es,c,a,g⟩:=t.atm
  have hrel:=g.rel
  unfold RelM at hrel
  have hlen:es.length=l.length:=by have:=congrArg List.length hrel; simpa using this
  have hx:∀e∈es,e.val=iA (match e.val with | .s (.int _ v)=>v | _=>0):=by
    intro e he
    obtain ⟨j,hj,rfl⟩:=List.mem_iff_getElem.1 he
    have:=congrArg (fun z=>z[j]?) hrel
    have hj2:j < l.length:=by omega
    simp [hj,hj2] at this
    rw [this.2]; rfl
  refine ⟨es,c,fun e=>match e.val with | .s (.int _ v)=>v | _=>0,⟨by simp,happ a,g.nd,g.lt,hx,?_⟩,?_⟩
  · have:=t.len
    have:=t.rm
    omega
  · have:es.map (fun e=>(match e.val with | .s (.int _ v)=>v | _=>0:Int))=l.map Prod.snd:=by
      refine List.ext_getElem (by simpa using hlen) fun j h1 h2 => ?_
      have h1':j < es.length:=by simpa using h1
      have h2':j < l.length:=by simpa using h2
      have:=congrArg (fun z=>z[j]?) hrel
      simp [h1',h2'] at this
      rw [List.getElem_map,List.getElem_map,this.2]; rfl
    rw [this]
def WNextS (C:CallW) (f:FuncId):Prop:=∀(h hm:Nat) (room now:Int) (l:List (Int×Int)) S H (K:AV→St→Prop),WhX H h hm room now l→(∀(ids:List Int) (G:List HObj),ids.Perm (l.map Prod.snd)→ids.Pairwise (·≤·)→K (.tup [.s (.int .i64 (ids.headD 0)),.s (.bool (!ids.isEmpty))]) ⟨S,H ++ G⟩)→C (.fn f) [.ptr (.heap h) 0] ⟨S,H⟩ K
theorem wheel_Next_spec {C:CallW} (P:Program) {c:Nat→FuncId} {g:FuncId} (h0:ValsS C (c 0) g) (h1:SortedVS C (c 1) g):∀(h hm:Nat) (room now:Int) (l:List (Int×Int)) S H (K:AV→St→Prop),WhX H h hm room now l→(∀(ids:List Int) (G:List HObj),ids.Perm (l.map Prod.snd)→ids.Pairwise (·≤·)→K (.tup [.s (.int .i64 (ids.headD 0)),.s (.bool (!ids.isEmpty))]) ⟨S,H ++ G⟩)→runL C P (Cz1t c) [.ptr (.heap h) 0] ⟨S,H⟩ K:=by
  intro h hm room now l S H K t hK
  have a0:=t.at0
  unfold wlc at a0
  simp only [Cz1t,A_,simprocAttr,ne_eq,(Uz2d _).1,CHK_,Nat.reduceBEq,a0]
  refine h0 hm _ _ _ ?_
  obtain ⟨es,cc,x,hM,hp⟩:=t.vals
  simp only [Cz1t,A_,simprocAttr,ne_eq,(Uz2d _).1,CHK_,Nat.reduceBEq,a0]
  refine h1 _ hm cc es x _ _ _ hM fun ids G hi1 hi2 => ?_
  have hK:=hK ids (.cells [.map hm] :: G) (hi1.trans hp) hi2
  cases ids with
  | nil =>
    have z:((0:Int)=0)=True:=eq_true rfl
    simp only [lstZ,Cz1t,A_,simprocAttr,ne_eq,(Uz2d _).1,CHK_,Nat.reduceBEq,z]
    exact hK
  | cons y ids =>
    have z:(((ids.length + 1:Nat):Int)=0)=False:=eq_false (by omega)
    have x0:∀k:IntKind,indexAddrL (.sl 1) (.list .sh 1 (iA y :: ids.map iA)) (.s (.int k 0))=some (.rop [.s (.int .i64 y)]):=fun k=>by
      have:=ixl_map (f:=iA) (l:=y :: ids) (i:=0) (c:=1) (k:=k) (by simp) (by omega)
      exact this
    simp only [lstZ,Cz1t,A_,simprocAttr,ne_eq,(Uz2d _).1,CHK_,Nat.reduceBEq,z,x0]
    exact hK
end Go.AM
namespace Go.AM
open Go
open AV renaming undef → uu
set_option maxRecDepth 20000
theorem st1k {S:List (List AV)} {H:List HObj} {b off:Nat} {cs:List AV} {v:AV} (hb:H[b]? = some (.cells cs)) (h1:off < cs.length) (h2:v.cells=[v]) (h3:v.fit=true) (h4:AV.under 0 v=true):storeL 1 (.ptr (.heap b) off) v ⟨S,H⟩=some ⟨S,H.set b (.cells (cs.set off v))⟩:=by
  have hbo:boxOf ⟨S,H⟩ (.heap b)=some cs:=by simp [boxOf,hb]
  simp [storeL,h2,h3,writeCells,hbo,mayHold,AV.under.go,h4,splice,setBox]
  omega
theorem WhX.ents {H:List HObj} {h hm:Nat} {room now:Int} {l:List (Int×Int)} (t:WhX H h hm room now l):∃es c,∃px:Entry→Int×Int,H[hm]? = some (.map es c)∧(es.map (·.born)).Nodup∧(∀e∈es,e.born < c)∧(∀e∈es,e.key=iA (px e).1∧e.val=iA (px e).2)∧es.map px=l:=by
  obtain ⟨es,c,a,g⟩:=t.atm
  have hrel:=g.rel
  unfold RelM at hrel
  have hlen:es.length=l.length:=by have:=congrArg List.length hrel; simpa using this
  have hget:∀j (h1:j < es.length) (h2:j < l.length),es[j].key=iA l[j].1∧es[j].val=iA l[j].2:=by
    intro j h1 h2
    have:=congrArg (fun z=>z[j]?) hrel
    simp [h1,h2] at this
    exact this
  refine ⟨es,c,fun e=>(match e.key with | .s (.int _ v)=>v | _=>0,match e.val with | .s (.int _ v)=>v | _=>0),a,g.nd,g.lt,fun e he => ?_,?_⟩
  · obtain ⟨j,hj,rfl⟩:=List.mem_iff_getElem.1 he
    obtain ⟨q1,q2⟩:=hget j hj (by omega)
    dsimp only
    rw [q1,q2]; exact ⟨rfl,rfl⟩
  · refine List.ext_getElem (by simpa using hlen) fun j h1 h2 => ?_
    have h1':j < es.length:=by simpa using h1
    obtain ⟨q1,q2⟩:=hget j h1' h2
    rw [List.getElem_map,q1,q2]; rfl
def accW (px:Entry→Int×Int) (to:Int) (vs:List Entry):List Int:=((vs.map px).filter fun p=>decide (p.2≤to)).map Prod.fst
theorem accW_snoc {px:Entry→Int×Int} {to:Int} {vs:List Entry} {e:Entry}:accW px to (vs ++ [e])=if (px e).2≤to then accW px to vs ++ [(px e).1] else accW px to vs:=by
  unfold accW
  by_cases h:(px e).2≤to <;> simp [h,List.filter_append]
def befW (l:List (Int×Int)) (a b:Int):Prop:=dueOf l a < dueOf l b∨(dueOf l a=dueOf l b∧a < b)
def AdvS (C:CallW) (f:FuncId):Prop:=∀(h hm:Nat) (room now:Int) (l:List (Int×Int)) (to:Int) S H (K:AV→St→Prop),WhX H h hm room now l→(to < now→K (lstZ []) ⟨S,H⟩)→(now≤to→∀(H':List HObj) (ids:List Int),Ext H H' h hm→WhX H' h hm room to (l.filter fun p=>decide (to < p.2))→ids.Perm ((l.filter fun p=>decide (p.2≤to)).map Prod.fst)→ids.Pairwise (befW l)→K (lstZ ids) ⟨S,H'⟩)→C (.fn f) [.ptr (.heap h) 0,.s (.int .i64 to)] ⟨S,H⟩ K
theorem nd_fst {l:List (Int×Int)} (h:(l.map Prod.fst).Nodup) {p q:Int×Int} (hp:p∈l) (hq:q∈l) (e:p.1=q.1):p=q:=by
  obtain ⟨i,hi,rfl⟩:=List.mem_iff_getElem.1 hp
  obtain ⟨j,hj,rfl⟩:=List.mem_iff_getElem.1 hq
  by_cases ij:i=j
  · subst ij; rfl
  · have hi':i < (l.map Prod.fst).length:=by simpa using hi
    have hj':j < (l.map Prod.fst).length:=by simpa using hj
    have:=List.pairwise_iff_getElem.1 h
    rcases Nat.lt_or_gt_of_ne ij with q | q
    · exact absurd (by simpa using e) (this i j hi' hj' q)
    · exact absurd (by simpa using e.symm) (this j i hj' hi' q)
theorem adv_rest {l:List (Int×Int)} {to:Int} {ids:List Int} (hn:(l.map Prod.fst).Nodup) (hp:ids.Perm ((l.filter fun p=>decide (p.2≤to)).map Prod.fst)):(l.filter fun p=>decide (p.1∉ids))=l.filter fun p=>decide (to < p.2):=by
  refine List.filter_congr fun p hpl => ?_
  refine decide_eq_decide.2 ?_
  rw [hp.mem_iff,List.mem_map]
  constructor
  · intro q
    rcases Int.lt_or_le to p.2 with h | h
    · exact h
    · exact absurd ⟨p,List.mem_filter.2 ⟨hpl,decide_eq_true h⟩,rfl⟩ q
  · rintro h ⟨q,hq,e⟩
    obtain ⟨hq1,hq2⟩:=List.mem_filter.1 hq
    have:=nd_fst hn hq1 hpl e
    subst this
    have:=of_decide_eq_true hq2
    omega
theorem adv_nd {l:List (Int×Int)} {to:Int} {ids:List Int} (hn:(l.map Prod.fst).Nodup) (hp:ids.Perm ((l.filter fun p=>decide (p.2≤to)).map Prod.fst)):ids.Nodup:=hp.nodup_iff.2 (hn.sublist (List.Sublist.map _ List.filter_sublist))
theorem adv_sorted {l:List (Int×Int)} {R:Array Int} {n:Nat} (hR:R.size=n) (hn:R.toList.Nodup) (h:Sort.SortedIn (ltC (cvW (dueOf l))) 0 n R):R.toList.Pairwise (befW l):=by
  rw [List.pairwise_iff_getElem]
  intro i j hi hj hij
  have hj':j < R.size:=by simpa using hj
  have hi':i < R.size:=by simpa using hi
  have:=h i j (Nat.zero_le _) hij (by omega)
  rw [get_bang hj',get_bang hi',ltC_cvW] at this
  have this:=of_decide_eq_false this
  have hne:=List.pairwise_iff_getElem.1 hn i j hi hj hij
  generalize R.toList[i]=a at this hne ⊢
  generalize R.toList[j]=b at this hne ⊢
  unfold befW
  omega
set_option maxHeartbeats 16000000 in
theorem wheel_Advance_spec {C:CallW} (hC:LeC C C) (P:Program) {c:Nat→FuncId} (hA:CvS C (c 0)) (h1:∀r due,SortFS C (c 0) [.ptr (.stk r) 0] (cvW due) (c 1)) (h1n:SortFN C (c 1)):∀(h hm:Nat) (room now:Int) (l:List (Int×Int)) (to:Int) S H (K:AV→St→Prop),WhX H h hm room now l→(to < now→K (lstZ []) ⟨S,H⟩)→(now≤to→∀(H':List HObj) (ids:List Int),Ext H H' h hm→WhX H' h hm room to (l.filter fun p=>decide (to < p.2))→ids.Perm ((l.filter fun p=>decide (p.2≤to)).map Prod.fst)→ids.Pairwise (befW l)→K (lstZ ids) ⟨S,H'⟩)→runL C P (Czg c) [.ptr (.heap h) 0,.s (.int .i64 to)] ⟨S,H⟩ (WkK K):=by
  intro h hm room now l to S H K t hlow hK
  have hfz:∀(e:ET) (σ:St),freezeL e (.s .nilS) σ=some (.s .nilS,σ):=fun _ _=>rfl
  have a0:=t.at0
  unfold wlc at a0
  by_cases hto:to < now
  · simp only [Czg,A_,simprocAttr,ne_eq,(Uzj _).1,CHK_,Nat.reduceBEq,a0,hto]
    exact ⟨_,.inr (.nilS (by omega) .nil),hlow hto⟩
  have hK:=hK (by omega)
  clear hlow
  have hst:=fun S'=>st1k (S:=S') (off:=1) (v := .s (.int .i64 to)) a0 (by simp) rfl rfl rfl
  have t1:=t.setn (now':=to)
  have k1:Ext H (H.set h (.cells (wlc room to hm))) h hm := .set1
  have hst:∀S',storeL 1 (.ptr (.heap h) 1) (.s (.int .i64 to)) ⟨S',H⟩=some ⟨S',H.set h (.cells (wlc room to hm))⟩:=hst
  generalize H.set h (.cells (wlc room to hm))=H1 at t1 hst k1
  have a1:=t1.at0
  unfold wlc at a1
  obtain ⟨es,cc,px,am,hnd,hlt,hkv,hmap⟩:=t1.ents
  have hel:es.length=l.length:=by rw [←hmap]; simp
  have hl1:l.length≤1000:=by have:=t.len; have:=t.rm; omega
  simp only [Czg,A_,simprocAttr,ne_eq,(Uzj _).1,CHK_,Nat.reduceBEq,a0,hto,hst,a1]
  rw [opS_rng rfl am]
  simp only [Czg,A_,simprocAttr,ne_eq,(Uzj _).1,CHK_,Nat.reduceBEq]
  refine loop_rule hC (α:=List Entry) (fun vs=>es.length - vs.length) (fun vs=>[.undef,.s (.int .i64 to),.ptr (.stk S.length) 0,uu,uu,slZ (accW px to vs),uu,uu,uu,uu,uu,uu,uu,uu,uu,uu,uu,uu,uu,uu,uu,uu,uu,uu,.ptr (.heap H1.length) 0,uu,uu,uu,uu,uu,uu,uu,uu,uu,uu,uu,uu,uu,uu,uu,uu,uu,uu,uu,uu,uu,uu,uu,uu,uu,uu,uu,uu]) (fun _=>S ++ [[.ptr (.heap h) 0]]) (fun vs=>H1 ++ [.iter ⟨some hm,cc,vs.map (·.born),cc⟩]) (fun vs=>(vs.map (·.born)).Nodup∧∀e∈vs,e∈es) [] ⟨.nil,fun e h=>by cases h⟩ (by simp [keep,zm,accW,slZ_nil]) (by rw [app_take_add]; rfl) rfl (fun a _=>by simp [AV.under,AV.under.go,slZ_under]) ?_
  rintro vs ⟨hvn,hvs⟩ ih
  have hit:(H1 ++ [.iter ⟨some hm,cc,vs.map (·.born),cc⟩])[H1.length]? = some (.iter ⟨some hm,cc,vs.map (·.born),cc⟩):=by simp
  have hmm:∀o,(H1 ++ [o])[hm]? = some (.map es cc):=fun o=>happ am
  simp only [Czg,A_,simprocAttr,ne_eq,(Uzj _).1]
  rw [opS_nxt rfl hit rfl (hmm _)]
  refine ⟨?_,fun hall => ?_,fun e he hns => ?_⟩
  · cases vs with
    | nil=>exact .inl rfl
    | cons v vs=>exact .inr (.inr ⟨v,hvs v List.mem_cons_self,hlt v (hvs v List.mem_cons_self)⟩)
  · have hp:vs.Perm es:=by
      refine (List.perm_ext_iff_of_nodup ?_ ?_).2 fun e=>⟨hvs e,fun he => ?_⟩
      · exact List.Pairwise.of_map (·.born) (fun a b h e=>h (by rw [e])) hvn
      · exact List.Pairwise.of_map (·.born) (fun a b h e=>h (by rw [e])) hnd
      · rcases hall e he with h1 | h1
        · rw [List.mem_map] at h1
          obtain ⟨v,hv,hb⟩:=h1
          have q1:=born_find hnd (hvs v hv)
          have q2:=born_find hnd he
          rw [hb,q2] at q1
          rw [Option.some.inj q1]; exact hv
        · have:=hlt e he
          exact absurd h1 (by dsimp only; omega)
    have hacc:(accW px to vs).Perm ((l.filter fun p=>decide (p.2≤to)).map Prod.fst):=by
      unfold accW
      rw [←hmap]
      exact ((hp.map px).filter _).map _
    generalize accW px to vs=acc at hacc
    have t2:WhX (H1 ++ [.iter ⟨some hm,cc,vs.map (·.born),cc⟩]) h hm room to l:=t1.app
    have k2:Ext H (H1 ++ [.iter ⟨some hm,cc,vs.map (·.born),cc⟩]) h hm:=k1.trans .app
    clear ih hit hmm hall
    generalize H1 ++ [.iter ⟨some hm,cc,vs.map (·.born),cc⟩]=H2 at t2 k2 ⊢
    have hal:acc.length≤1000000:=by
      have h3:=hacc.length_eq
      rw [List.length_map] at h3
      have:=List.length_filter_le (fun p:Int×Int=>decide (p.2≤to)) l
      omega
    by_cases e:acc=[]
    · subst e
      simp only [Czg,A_,simprocAttr,ne_eq,(Uzj _).1]
      rw [thaw_slZ0 rfl]
      have hu:AV.under.go (S.length + 1) [.ptr (.stk S.length) 0]=true:=by simp [AV.under,AV.under.go]
      simp only [Czg,A_,simprocAttr,ne_eq,(Uzj _).1,slZ_nil]
      refine h1n _ _ _ _ _ (by simpa using hu) ?_
      have z:((0:Int) < 0)=False:=eq_false (by omega)
      simp only [Czg,A_,simprocAttr,ne_eq,(Uzj _).1,slZ_nil]
      refine loop_ruleS hC (α:=Unit) (fun _=>0) (fun _=>[uu,uu,.ptr (.stk S.length) 0,uu,uu,.s .nilS,uu,uu,uu,uu,uu,uu,uu,uu,uu,uu,uu,uu,uu,uu,uu,uu,uu,uu,uu,uu,uu,uu,uu,uu,uu,uu,uu,uu,uu,uu,uu,uu,uu,uu,.s .nilS,.s (.int .i64 0),.s (.int .i64 0),uu,uu,uu,uu,uu,uu,uu,uu,uu,uu]) (fun _=>True) () trivial (by simp [keep,zm]) (by rw [app_take_add]; rfl) (fun a _=>by simp [AV.under,AV.under.go]) ?_
      rintro _ _ ih2
      simp only [Czg,A_,simprocAttr,ne_eq,(Uzj _).1,hfz,z]
      refine ⟨_,.inr (.nilS (by omega) .nil),hK H2 [] k2 ?_ hacc .nil⟩
      have:=adv_rest t.nd hacc
      rw [←this,List.filter_eq_self.2 fun p _=>by simp]
      exact t2
    · simp only [Czg,A_,simprocAttr,ne_eq,(Uzj _).1]
      rw [thaw_slZ e rfl]
      simp only [Czg,A_,simprocAttr,ne_eq,(Uzj _).1,List.set_cons_zero,List.set_cons_succ]
      have hds:(arrZ acc).size=acc.length:=rfl
      have hnd2:=t.nd
      have hS1:(S ++ [[.ptr (.heap h) 0],flat iA (arrZ acc)])[S.length + 1]? = some (flat iA (arrZ acc)):=app_get _ _ 1
      refine h1 S.length (dueOf l) (S.length + 1) (arrZ acc) _ _ _ ⟨fun k hk => ?_,fun x y S' K' hS' hK' => ?_⟩ hS1 (by rw [hds]; omega) fun R hR1 hR2 => ?_
      · simp at hk
        simp [AV.under,AV.under.go]
        omega
      · refine hA h hm S.length room to l x y S' H2 K' t2 ?_ hK'
        rw [hS' S.length (by simp) (by omega) (by omega)]
        exact app_get0 _ _
      have hRs:R.size=acc.length:=hR1.1
      have hRp:R.toList.Perm ((l.filter fun p=>decide (p.2≤to)).map Prod.fst):=(sorted_perm hR1).trans hacc
      have hRn:=adv_nd hnd2 hRp
      have hRo:=adv_sorted (l:=l) hRs hRn (by rw [←hRs]; rw [hds,←hRs] at hR2; exact hR2)
      have hrest:=adv_rest hnd2 hRp
      have hset:∀x y:List AV,(S ++ [[.ptr (.heap h) 0],x]).set (S.length + 1) y=S ++ [[.ptr (.heap h) 0],y]:=fun x y=>app_set _ _ 1 _
      rw [hset]
      have hS2:(S ++ [[.ptr (.heap h) 0],flat iA R])[S.length + 1]? = some (flat iA R):=app_get _ _ 1
      have hK:=fun H' q1 q2=>hK H' R.toList q1 q2 hRp hRo
      generalize acc.length=N at hRs hal ⊢
      simp only [Czg,A_,simprocAttr,ne_eq,(Uzj _).1]
      refine loop_rule hC (α:=Nat×List HObj) (fun x=>N - x.1) (fun x=>[uu,uu,.ptr (.stk S.length) 0,uu,uu,.row (.stk (S.length + 1)) 0 N N,uu,uu,uu,uu,uu,uu,uu,uu,uu,uu,uu,uu,uu,uu,uu,uu,uu,uu,uu,uu,uu,uu,uu,uu,uu,uu,uu,uu,uu,uu,uu,uu,uu,uu,.row (.stk (S.length + 1)) 0 N N,.s (.int .i64 (N:Nat)),.s (.int .i64 (x.1:Nat)),uu,uu,uu,uu,uu,uu,uu,uu,uu,uu]) (fun _=>S ++ [[.ptr (.heap h) 0],flat iA R]) (fun x=>x.2) (fun x=>x.1≤N∧WhX x.2 h hm room to (l.filter fun p=>decide (p.1∉R.toList.take x.1))∧Ext H x.2 h hm) (0,H2) ⟨Nat.zero_le _,by dsimp only; rw [List.filter_eq_self.2 fun p _=>by simp]; exact t2,k2⟩ (by simp [keep,zm]) (by rw [app_take_add]; rfl) rfl (fun x _=>by simp [AV.under,AV.under.go]) ?_
      rintro ⟨k,Hk⟩ ⟨hk,tk,kk⟩ ih2
      dsimp only at hk tk kk ih2 ⊢
      by_cases hkN:k < N
      · have hltk:((k:Int) < (N:Int)):=by omega
        have hwk:=wrap_succ (i:=k) (by omega)
        have x1:∀q:IntKind,indexAddrL (.sl 1) (.row (.stk (S.length + 1)) 0 N N) (.s (.int q (k:Int)))=some (.ptr (.stk (S.length + 1)) k):=fun q=>ixi hkN
        have r1:=ird (H:=Hk) hS2 (i:=k) (by omega)
        have ak:=tk.at0
        unfold wlc at ak
        obtain ⟨es2,c2,hdel,t3⟩:=tk.del R[k]!
        have htk:R.toList.take (k + 1)=R.toList.take k ++ [R[k]!]:=take_at (by omega)
        have e3:delW (l.filter fun p=>decide (p.1∉R.toList.take k)) R[k]! = l.filter fun p=>decide (p.1∉R.toList.take (k + 1)):=by
          unfold delW
          rw [List.filter_filter,htk]
          refine List.filter_congr fun p _ => ?_
          simp only [List.mem_append,List.mem_singleton,not_or]
          rw [Bool.decide_and,Bool.and_comm]
        rw [e3] at t3
        simp only [Czg,A_,simprocAttr,ne_eq,(Uzj _).1,hltk,x1,r1,ak,hdel,hwk]
        exact ih2 (k + 1,_) _ _ _ (by dsimp only; omega) ⟨by dsimp only; omega,t3,kk.trans .set2⟩ (by simp [keep,zm]) (by rw [app_take_add]; rfl) rfl
      · have hltk:¬((k:Int) < (N:Int)):=by omega
        rw [List.take_of_length_le (by simp; omega),hrest] at tk
        have hf:∀{e:ET},e.c=1→e.ag=false→freezeL e (.row (.stk (S.length + 1)) 0 N N) ⟨S ++ [[.ptr (.heap h) 0],flat iA R],Hk⟩=_:=fun h1 h2=>freeze_i (H:=Hk) h1 h2 hS2 (by omega)
        simp only [hset] at hf
        rw [List.take_of_length_le (by simp [hRs])] at hf
        simp only [Czg,A_,simprocAttr,ne_eq,(Uzj _).1,hltk,hf]
        exact ⟨_,.inl rfl,hK Hk kk tk⟩
  · have hk:=hkv e he
    have hit2:(H1 ++ [.iter ⟨some hm,cc,vs.map (·.born) ++ [e.born],cc⟩])[H1.length]? = some (.iter ⟨some hm,cc,vs.map (·.born) ++ [e.born],cc⟩):=by simp
    have hset:∀o o':HObj,(H1 ++ [o]).set H1.length o'=H1 ++ [o']:=fun o o'=>by simp
    have hb:((vs ++ [e]).map (·.born)).Nodup:=by
      rw [List.map_append,List.nodup_append]
      exact ⟨hvn,by simp,fun a ha b hb=>by
        have:b=e.born:=by simpa using hb
        subst this
        exact fun e2=>hns (e2▸ha)⟩
    have hmem:∀z∈vs ++ [e],z∈es:=fun z hz=>by
      rcases List.mem_append.1 hz with hz | hz
      · exact hvs z hz
      · have:z=e:=by simpa using hz
        rw [this]; exact he
    have hll:vs.length < es.length:=by
      have hnd2:(vs ++ [e]).Nodup:=List.Pairwise.of_map (·.born) (fun a b h e=>h (by rw [e])) hb
      have h1:(vs ++ [e]).length≤es.length:=hnd2.length_le_of_subset hmem
      simp at h1; omega
    have hacl:(accW px to vs).length≤1000000:=by
      unfold accW
      rw [List.length_map]
      have:=List.length_filter_le (fun p:Int×Int=>decide (p.2≤to)) (vs.map px)
      rw [List.length_map] at this
      omega
    have hsn:=accW_snoc (px:=px) (to:=to) (vs:=vs) (e:=e)
    have ihx:=ih (vs ++ [e])
    clear ih
    dsimp only at ihx
    rw [hsn,show (vs ++ [e]).map (·.born)=vs.map (·.born) ++ [e.born] by simp] at ihx
    dsimp only
    rw [hset]
    simp only [Czg,A_,simprocAttr,ne_eq,(Uzj _).1]
    rw [opS_ent rfl hit2 rfl (hmm _) (b:=e.born) (by simp) rfl (born_find hnd he),hk.1,hk.2]
    generalize px e=pe at *
    obtain ⟨i,a⟩:=pe
    dsimp only at *
    by_cases hd:a≤to
    · rw [if_pos hd] at ihx
      have ha:∀(e:ET) (σ:St),e.c=1→e.bytes=8→appendL e false (slZ (accW px to vs)) (.list .full 1 [.s (.int .i64 i)]) σ=some (slZ (accW px to vs ++ [i]),σ):=fun e σ h1 h2=>by rw [slZ_snoc]; exact app_slZ h1 h2 hacl
      by_cases hz:accW px to vs=[]
      · rw [hz] at ha ihx ⊢
        simp only [slZ_nil] at ha ihx ⊢
        simp only [iA,Czg,A_,simprocAttr,ne_eq,(Uzj _).1,hd,ha,bslL,fillE,List.isEmpty_cons,List.isEmpty_nil]
        exact ihx _ _ _ (by simp; omega) ⟨by rw [List.map_append] at hb; exact hb,hmem⟩ (by simp [keep,zm]) (by rw [app_take_add]; rfl) rfl
      · obtain ⟨es3,he3⟩:∃es3,slZ (accW px to vs) = .list .uniq 1 es3:=⟨_,if_neg hz⟩
        rw [he3] at ha ⊢
        simp only [iA,Czg,A_,simprocAttr,ne_eq,(Uzj _).1,hd,ha,bslL,fillE,List.isEmpty_cons,List.isEmpty_nil]
        exact ihx _ _ _ (by simp; omega) ⟨by rw [List.map_append] at hb; exact hb,hmem⟩ (by simp [keep,zm]) (by rw [app_take_add]; rfl) rfl
    · rw [if_neg hd] at ihx
      simp only [iA,Czg,A_,simprocAttr,ne_eq,(Uzj _).1,hd]
      exact ihx _ _ _ (by simp; omega) ⟨by rw [List.map_append] at hb; exact hb,hmem⟩ (by simp [keep,zm]) (by rw [app_take_add]; rfl) rfl
end Go.AM
namespace Go.AM
open Go
set_option maxRecDepth 20000
end Go.AM
namespace Go.AM
open Go
set_option maxRecDepth 20000
end Go.AM
namespace Go.AM
open Go
open AV renaming undef → uu
set_option maxRecDepth 20000
theorem ixl_n {l:List Int} {i:Nat} (h:i < l.length) (k:IntKind):indexAddrL (.sl 1) (.list .sh 1 (l.map pI)) (.s (.int k (i:Int)))=some (.rop [.s (.int .i64 l[i])]):=ixl_map h (by omega)
def SameIS (C:CallW) (f:FuncId):Prop:=∀(a b:List Int) S H (K:AV→St→Prop),a.length≤1000000→b.length≤1000000→K (.bool (decide (a=b))) ⟨S,H⟩→C (.fn f) [lstN a,lstN b] ⟨S,H⟩ K
set_option maxHeartbeats 4000000 in
theorem sameI_spec {C:CallW} (hC:LeC C C) (P:Program):∀(a b:List Int) S H (K:AV→St→Prop),a.length≤1000000→b.length≤1000000→K (.bool (decide (a=b))) ⟨S,H⟩→runL C P Cz12 [lstN a,lstN b] ⟨S,H⟩ K:=by
  intro a b S H K ha hb hK
  by_cases hl:a.length=b.length
  case neg =>
    have hl':((a.length:Int)=(b.length:Int))=False:=eq_false (by omega)
    rw [decide_eq_false (fun e=>hl (by rw [e]))] at hK
    simp only [lstN,Cz12,A_,simprocAttr,ne_eq,Uz1h.1,hl']
    exact hK
  have hl':((a.length:Int)=(b.length:Int))=True:=eq_true (by omega)
  simp only [lstN,Cz12,A_,simprocAttr,ne_eq,Uz1h.1,hl']
  refine loop_rule hC (α:=Nat) (fun x=>a.length - x) (fun x=>[.list .sh 1 (a.map pI),.list .sh 1 (b.map pI),uu,uu,uu,.s (.int .i64 (x:Nat)),uu,uu,uu,uu,uu,uu,uu,uu,uu,uu,uu,uu,uu,uu,uu,uu,uu,uu,uu,uu]) (fun _=>S) (fun _=>H) (fun i=>i≤a.length∧a.take i=b.take i) 0 ⟨by simp,rfl⟩ (by simp [keep,zm]) (by simp) rfl (fun i hi=>by simp [AV.under,AV.under.go]) ?_
  rintro i ⟨hi,hinv⟩ ih
  by_cases h16:i < a.length
  · have h17:i < b.length:=by omega
    have hlt:((i:Int) < (a.length:Int)):=by omega
    have hw:=wrap_succ (i:=i) (by omega)
    have x1:=ixl_n h16
    have x2:=ixl_n h17
    simp only [Cz12,A_,simprocAttr,ne_eq,Uz1h.1,hlt,x1,x2]
    by_cases he:a[i]=b[i]
    · have he':(a[i]=b[i])=True:=eq_true he
      simp only [Cz12,A_,simprocAttr,ne_eq,Uz1h.1,he',hw]
      exact ih (i + 1) _ _ _ (by omega) ⟨by omega,by rw [List.take_succ_eq_append_getElem h16,List.take_succ_eq_append_getElem h17,hinv,he]⟩ (by simp [keep,zm]) (by simp) rfl
    · have he':(a[i]=b[i])=False:=eq_false he
      rw [decide_eq_false (fun e=>he (by subst e; rfl))] at hK
      simp only [Cz12,A_,simprocAttr,ne_eq,Uz1h.1,he']
      exact hK
  · have hlt:¬((i:Int) < (a.length:Int)):=by omega
    rw [List.take_of_length_le (by omega),List.take_of_length_le (by omega)] at hinv
    rw [decide_eq_true hinv] at hK
    simp only [Cz12,A_,simprocAttr,ne_eq,Uz1h.1,hlt]
    exact hK
end Go.AM
namespace Go.AM
open Go
set_option maxRecDepth 20000
theorem ids_eq {ids m:List Int} (hp:ids.Perm m) (h1:ids.Pairwise (·≤·)) (h2:m.Pairwise (·≤·)):ids=m:=List.Perm.eq_of_pairwise (le:=fun a b:Int=>a≤b) (fun a b _ _ h1 h2=>by omega) h1 h2 hp
theorem ids_eqW {l:List (Int×Int)} {ids m:List Int} (hp:ids.Perm m) (h1:ids.Pairwise (befW l)) (h2:m.Pairwise (befW l)):ids=m:=List.Perm.eq_of_pairwise (le:=befW l) (fun a b _ _ h1 h2=>by unfold befW at h1 h2; omega) h1 h2 hp
theorem reP0:refEq 0 (.s .nilP) (.s .nilP)=some true:=rfl
theorem reP1 {n:Nat}:refEq 0 (.ptr (.heap n) 0) (.s .nilP)=some false:=rfl
theorem lst_wkZ {a:AV} {l:List Int}:WkF [a,.list .full 1 (l.map iA)] [a,lstZ l] := .same (.wk (show WkL [.list .full 1 (l.map iA)] [lstZ l] from .full .nil) .nil)
def AwWS (C:CallW) (f:FuncId):Prop:=∀S H (K:AV→St→Prop),(∀H',K (.bool true) ⟨S,H'⟩)→C (.fn f) [] ⟨S,H⟩ K
set_option maxHeartbeats 8000000 in
theorem law21_awake_spec {C:CallW} (hC:LeC C C) (hW:WkC C) (P:Program) {c:Nat→FuncId} (h0:NewWS C (c 0)) (h1:SetWS C (c 1)) (h2:WNextS C (c 2)) (h3:AdvS C (c 3)) (h4:SameIS C (c 4)) (h5:WLenS C (c 5)) (h6:WNowS C (c 6)):∀S H (K:AV→St→Prop),(∀H',K (.bool true) ⟨S,H'⟩)→runL C P (Czo c) [] ⟨S,H⟩ K:=by
  intro S H K hK
  simp only [Czo,A_,simprocAttr,ne_eq,(Uzt _).1]
  refine h0 5 _ _ _ (fun q=>absurd q (by omega)) fun _ _ t => ?_
  generalize H ++ [HObj.map [] 0,.cells (wlc 5 0 H.length)]=H0 at t ⊢
  generalize H.length + 1=h at t ⊢
  generalize H.length=hm at t
  simp only [Czo,A_,simprocAttr,ne_eq,(Uzt _).1,reP0,reP1]
  refine h1 h hm 5 0 [] 2 5 _ _ _ t fun H1 _ t => ?_
  have e1:setW 5 0 [] 2 5=(0,[(2,5)]):=rfl
  rw [e1] at t ⊢
  simp only [Czo,A_,simprocAttr,ne_eq,(Uzt _).1]
  refine h1 h hm 5 0 [(2,5)] 1 5 _ _ _ t fun H2 _ t => ?_
  have e2:setW 5 0 [(2,5)] 1 5=(0,[(2,5),(1,5)]):=rfl
  rw [e2] at t ⊢
  simp only [Czo,A_,simprocAttr,ne_eq,(Uzt _).1]
  refine h1 h hm 5 0 [(2,5),(1,5)] 3 4 _ _ _ t fun H3 _ t => ?_
  have e3:setW 5 0 [(2,5),(1,5)] 3 4=(0,[(2,5),(1,5),(3,4)]):=rfl
  rw [e3] at t ⊢
  simp only [Czo,A_,simprocAttr,ne_eq,(Uzt _).1]
  refine h2 h hm 5 0 [(2,5),(1,5),(3,4)] _ _ _ t fun ids G hp hs => ?_
  have hi:ids=[4,5,5]:=ids_eq (hp.trans (by decide)) hs (by decide)
  rw [hi]
  simp only [List.headD_cons,List.isEmpty_cons,Bool.not_false,Czo,A_,simprocAttr,ne_eq,(Uzt _).1]
  refine h3 h hm 5 0 [(2,5),(1,5),(3,4)] 5 _ _ _ t.app (fun q=>absurd q (by omega)) fun _ H4 ids2 _ t hp hs => ?_
  have hi:ids2=[3,1,2]:=ids_eqW (hp.trans (by decide)) hs (by simp [befW,dueOf,getB])
  rw [hi]
  have t:WhX H4 h hm 5 5 []:=t
  simp only [Czo,A_,simprocAttr,ne_eq,(Uzt _).1,bslL,fillE,List.isEmpty_cons,List.isEmpty_nil]
  refine hW _ _ _ _ _ (lst_wkZ (l:=[3,1,2])) (h4 [3,1,2] [3,1,2] _ _ _ (by decide) (by decide) ?_)
  rw [decide_eq_true rfl]
  simp only [Czo,A_,simprocAttr,ne_eq,(Uzt _).1]
  refine h5 h hm 5 5 [] _ _ _ t ?_
  simp only [Czo,A_,simprocAttr,ne_eq,(Uzt _).1]
  refine h6 h hm 5 5 [] _ _ _ t ?_
  simp only [Czo,A_,simprocAttr,ne_eq,(Uzt _).1]
  exact hK _
set_option maxHeartbeats 8000000 in
theorem WheelKnown_spec {C:CallW} (P:Program) {c:Nat→FuncId} (h0:AwWS C (c 0)) (h1:NewWS C (c 1)) (h2:SetWS C (c 2)) (h3:AdvS C (c 3)) (h4:CancS C (c 4)) (h5:WNextS C (c 5)) (h6:WNowS C (c 6)):∀S H (K:AV→St→Prop),(∀H',K (.bool true) ⟨S,H'⟩)→runL C P (Cza c) [] ⟨S,H⟩ K:=by
  intro S H K hK
  simp only [Cza,A_,simprocAttr,ne_eq,(Uzd _).1]
  refine h0 _ _ _ fun H1 => ?_
  simp only [Cza,A_,simprocAttr,ne_eq,(Uzd _).1]
  refine h1 0 _ _ _ (fun _ => ?_) fun q _ _=>absurd q (by omega)
  simp only [Cza,A_,simprocAttr,ne_eq,(Uzd _).1]
  refine h1 1001 _ _ _ (fun _ => ?_) fun _ q _=>absurd q (by omega)
  simp only [Cza,A_,simprocAttr,ne_eq,(Uzd _).1]
  refine h1 1 _ _ _ (fun q=>absurd q (by omega)) fun _ _ t => ?_
  generalize H1 ++ [HObj.map [] 0,.cells (wlc 1 0 H1.length)]=H0 at t ⊢
  generalize H1.length + 1=h at t ⊢
  generalize H1.length=hm at t
  simp only [Cza,A_,simprocAttr,ne_eq,(Uzd _).1]
  refine h2 h hm 1 0 [] 1 0 _ _ _ t fun H1 _ t => ?_
  rw [show setW 1 0 [] 1 0=(10,[]) from rfl] at t ⊢
  simp only [Cza,A_,simprocAttr,ne_eq,(Uzd _).1]
  refine h2 h hm 1 0 [] 1 5 _ _ _ t fun H1 _ t => ?_
  rw [show setW 1 0 [] 1 5=(0,[(1,5)]) from rfl] at t ⊢
  simp only [Cza,A_,simprocAttr,ne_eq,(Uzd _).1]
  refine h2 h hm 1 0 [(1,5)] 2 5 _ _ _ t fun H1 _ t => ?_
  rw [show setW 1 0 [(1,5)] 2 5=(6,[(1,5)]) from rfl] at t ⊢
  simp only [Cza,A_,simprocAttr,ne_eq,(Uzd _).1]
  refine h2 h hm 1 0 [(1,5)] 1 7 _ _ _ t fun H1 _ t => ?_
  rw [show setW 1 0 [(1,5)] 1 7=(0,[(1,7)]) from rfl] at t ⊢
  simp only [Cza,A_,simprocAttr,ne_eq,(Uzd _).1]
  refine h3 h hm 1 0 [(1,7)] 6 _ _ _ t (fun q=>absurd q (by omega)) fun _ H1 ids _ t hp hs => ?_
  have hi:ids=[]:=List.Perm.eq_nil hp
  rw [hi]
  have t:WhX H1 h hm 1 6 [(1,7)]:=t
  simp only [lstZ,List.map_nil,Cza,A_,simprocAttr,ne_eq,(Uzd _).1]
  refine h3 h hm 1 6 [(1,7)] 3 _ _ _ t (fun _ => ?_) fun q=>absurd q (by omega)
  simp only [lstZ,List.map_nil,Cza,A_,simprocAttr,ne_eq,(Uzd _).1]
  refine h2 h hm 1 6 [(1,7)] 1 6 _ _ _ t fun H1 _ t => ?_
  rw [show setW 1 6 [(1,7)] 1 6=(10,[(1,7)]) from rfl] at t ⊢
  simp only [Cza,A_,simprocAttr,ne_eq,(Uzd _).1]
  refine h4 h hm 1 6 [(1,7)] 2 _ _ _ t fun H1 _ t => ?_
  rw [show hasW [(1,7)] 2=false from rfl]
  have t:WhX H1 h hm 1 6 [(1,7)]:=t
  simp only [Cza,A_,simprocAttr,ne_eq,(Uzd _).1]
  refine h4 h hm 1 6 [(1,7)] 1 _ _ _ t fun H1 _ t => ?_
  rw [show hasW [(1,7)] 1=true from rfl]
  have t:WhX H1 h hm 1 6 []:=t
  simp only [Cza,A_,simprocAttr,ne_eq,(Uzd _).1]
  refine h5 h hm 1 6 [] _ _ _ t fun ids G hp hs => ?_
  have hi:ids=[]:=List.Perm.eq_nil hp
  rw [hi]
  simp only [List.headD_nil,List.isEmpty_nil,Bool.not_true,Cza,A_,simprocAttr,ne_eq,(Uzd _).1]
  refine h6 h hm 1 6 [] _ _ _ t.app ?_
  simp only [Cza,A_,simprocAttr,ne_eq,(Uzd _).1]
  refine h3 h hm 1 6 [] 9223372036854775807 _ _ _ t.app (fun q=>absurd q (by omega)) fun _ H1 ids _ t hp hs => ?_
  have hi:ids=[]:=List.Perm.eq_nil hp
  rw [hi]
  simp only [lstZ,List.map_nil,Cza,A_,simprocAttr,ne_eq,(Uzd _).1]
  exact hK _
end Go.AM
