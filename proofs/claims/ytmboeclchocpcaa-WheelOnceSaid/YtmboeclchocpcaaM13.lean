import Derived.Test.YtmboeclchocpcaaM12
import Derived.Test.YtmboeclchocpcaaM10
import Derived.Test.YtmboeclchocpcaaM7
import Derived.OpenShut
import Derived.Carry
import Derived.ChangeOld
set_option linter.unusedSimpArgs false
set_option linter.unusedVariables false
namespace Go.AM
open Go
set_option maxRecDepth 20000
def NewWS (C:CallW) (f:FuncId):Prop:=∀(room:Int) S H (K:AV→St→Prop),(room < 1∨1000 < room→K (.tup [.s .nilP,.s (.int .i64 1)]) ⟨S,H⟩)→(1≤room→room≤1000→WhX (H ++ [.map [] 0,.cells (wlc room 0 H.length)]) (H.length + 1) H.length room 0 []→K (.tup [.ptr (.heap (H.length + 1)) 0,.s (.int .i64 0)]) ⟨S,H ++ [.map [] 0,.cells (wlc room 0 H.length)]⟩)→C (.fn f) [.s (.int .i64 room)] ⟨S,H⟩ K
theorem newW {H:List HObj} {room:Int} (h1:1≤room) (h2:room≤1000):WhX (H ++ [.map [] 0,.cells (wlc room 0 H.length)]) (H.length + 1) H.length room 0 [] :=
  ⟨by simp,⟨[],0,by simp,⟨rfl,.nil,fun e h=>by cases h⟩⟩,.nil,by simp; omega,h2,by omega⟩
theorem wheel_New_spec {C:CallW} (P:Program):∀(room:Int) S H (K:AV→St→Prop),(room < 1∨1000 < room→K (.tup [.s .nilP,.s (.int .i64 1)]) ⟨S,H⟩)→(1≤room→room≤1000→WhX (H ++ [.map [] 0,.cells (wlc room 0 H.length)]) (H.length + 1) H.length room 0 []→K (.tup [.ptr (.heap (H.length + 1)) 0,.s (.int .i64 0)]) ⟨S,H ++ [.map [] 0,.cells (wlc room 0 H.length)]⟩)→runL C P Cz31 [.s (.int .i64 room)] ⟨S,H⟩ K:=by
  intro room S H K h1 h2
  by_cases a:room < 1
  · simp only [Cz31,A_,simprocAttr,ne_eq,Uz4j.1,a]
    exact h1 (.inl a)
  by_cases b:1000 < room
  · simp only [Cz31,A_,simprocAttr,ne_eq,Uz4j.1,a,b]
    exact h1 (.inr b)
  · have:=h2 (by omega) (by omega) (newW (by omega) (by omega))
    simp only [Cz31,A_,simprocAttr,ne_eq,Uz4j.1,a,b]
    exact this
def setW (room now:Int) (l:List (Int×Int)) (id at_:Int):Int×List (Int×Int):=if at_≤now then (10,l) else if hasW l id=false∧room≤(l.length:Int) then (6,l) else (0,putB Prod.fst l (id,at_))
def SetWS (C:CallW) (f:FuncId):Prop:=∀(h hm:Nat) (room now:Int) (l:List (Int×Int)) (id at_:Int) S H (K:AV→St→Prop),WhX H h hm room now l→(∀H',Ext H H' h hm→WhX H' h hm room now (setW room now l id at_).2→K (.s (.int .i64 (setW room now l id at_).1)) ⟨S,H'⟩)→C (.fn f) [.ptr (.heap h) 0,.s (.int .i64 id),.s (.int .i64 at_)] ⟨S,H⟩ K
theorem putB_len {l:List (Int×Int)} {x:Int×Int}:(putB Prod.fst l x).length=if hasW l x.1 then l.length else l.length + 1:=by
  unfold putB hasW
  cases getB Prod.fst l x.1 <;> simp
theorem putB_nd {l:List (Int×Int)} {x:Int×Int} (h:(l.map Prod.fst).Nodup):((putB Prod.fst l x).map Prod.fst).Nodup:=by
  unfold putB
  cases hg:getB Prod.fst l x.1 with
  | none =>
    have:=getB_none hg
    rw [List.map_append,List.nodup_append]
    exact ⟨h,by simp,fun a ha b hb e=>by
      obtain ⟨y,hy,rfl⟩:=List.mem_map.1 ha
      have hb:b=x.1:=by simpa using hb
      exact this y hy (e.trans hb)⟩
  | some y =>
    have:(l.map fun y=>if y.1=x.1 then x else y).map Prod.fst=l.map Prod.fst:=by
      rw [List.map_map]
      refine List.map_congr_left fun z _ => ?_
      dsimp only [Function.comp]
      split
      · rename_i e; exact e.symm
      · rfl
    dsimp only
    rw [this]; exact h
set_option maxHeartbeats 4000000 in
theorem wheel_Set_spec {C:CallW} (P:Program):∀(h hm:Nat) (room now:Int) (l:List (Int×Int)) (id at_:Int) S H (K:AV→St→Prop),WhX H h hm room now l→(∀H',Ext H H' h hm→WhX H' h hm room now (setW room now l id at_).2→K (.s (.int .i64 (setW room now l id at_).1)) ⟨S,H'⟩)→runL C P Cz22 [.ptr (.heap h) 0,.s (.int .i64 id),.s (.int .i64 at_)] ⟨S,H⟩ K:=by
  intro h hm room now l id at_ S H K t hK
  have a0:=t.at0
  unfold wlc at a0
  have lk:=fun S'=>t.look2 (S:=S') id
  have ll:=fun S'=>t.lenm (S:=S')
  by_cases h1:at_≤now
  · have e:setW room now l id at_=(10,l):=if_pos h1
    rw [e] at hK
    simp only [Cz22,A_,simprocAttr,ne_eq,Uz2g.1,CHK_,Nat.reduceBEq,a0,lk,h1]
    exact hK H .refl t
  obtain ⟨es,c,a1,g⟩:=t.atm
  obtain ⟨es',c2,u,g'⟩:=g.upd keyK_int (x:=(id,at_)) a1 t.nd rfl
  have u:∀S',updateL (.one (.int .i64)) (.map hm) (.s (.int .i64 id)) (.s (.int .i64 at_)) ⟨S',H⟩=some ⟨S',H.set hm (.map es' c2)⟩:=u
  have go:¬(hasW l id=false∧room≤(l.length:Int))→setW room now l id at_=(0,putB Prod.fst l (id,at_))∧WhX (H.set hm (.map es' c2)) h hm room now (putB Prod.fst l (id,at_)):=by
    intro q
    refine ⟨by unfold setW; rw [if_neg h1,if_neg q],t.setm g' (putB_nd t.nd) ?_⟩
    rw [putB_len]
    split
    · exact t.len
    · rename_i q2
      have:¬(room≤(l.length:Int)):=fun q3=>q ⟨by simpa using q2,q3⟩
      omega
  cases hh:hasW l id with
  | true =>
    obtain ⟨e,t2⟩:=go (by rw [hh]; simp)
    rw [hh] at lk
    rw [e] at hK
    simp only [Cz22,A_,simprocAttr,ne_eq,Uz2g.1,CHK_,Nat.reduceBEq,a0,lk,h1,u]
    exact hK _ .set2 t2
  | false =>
    rw [hh] at lk
    by_cases h2:room≤(l.length:Int)
    · have e:setW room now l id at_=(6,l):=by unfold setW; rw [if_neg h1,if_pos ⟨hh,h2⟩]
      rw [e] at hK
      simp only [Cz22,A_,simprocAttr,ne_eq,Uz2g.1,CHK_,Nat.reduceBEq,a0,lk,ll,h1,h2]
      exact hK H .refl t
    · obtain ⟨e,t2⟩:=go (fun q=>h2 q.2)
      rw [e] at hK
      simp only [Cz22,A_,simprocAttr,ne_eq,Uz2g.1,CHK_,Nat.reduceBEq,a0,lk,ll,h1,h2,u]
      exact hK _ .set2 t2
def delW (l:List (Int×Int)) (id:Int):List (Int×Int):=l.filter fun x=>decide (x.1≠id)
theorem delW_nd {l:List (Int×Int)} {id:Int} (h:(l.map Prod.fst).Nodup):((delW l id).map Prod.fst).Nodup:=h.sublist (List.Sublist.map _ List.filter_sublist)
theorem delW_len {l:List (Int×Int)} {id:Int}:(delW l id).length≤l.length:=List.length_filter_le _ _
theorem WhX.del {H:List HObj} {h hm:Nat} {room now:Int} {l:List (Int×Int)} (t:WhX H h hm room now l) (id:Int):∃es c,(∀S:List (List AV),deleteL (.one (.int .i64)) (.map hm) (.s (.int .i64 id)) ⟨S,H⟩=some ⟨S,H.set hm (.map es c)⟩)∧WhX (H.set hm (.map es c)) h hm room now (delW l id):=by
  obtain ⟨es,c,a1,g⟩:=t.atm
  obtain ⟨es',hd,g'⟩:=g.del keyK_int (k:=id) a1 t.nd
  refine ⟨es',c,hd,t.setm g' (delW_nd t.nd) ?_⟩
  have:=delW_len (l:=l) (id:=id)
  have:=t.len
  show ((delW l id).length:Int)≤room
  omega
def WLenS (C:CallW) (f:FuncId):Prop:=∀(h hm:Nat) (room now:Int) (l:List (Int×Int)) S H (K:AV→St→Prop),WhX H h hm room now l→K (.s (.int .i64 (l.length:Nat))) ⟨S,H⟩→C (.fn f) [.ptr (.heap h) 0] ⟨S,H⟩ K
theorem wheel_Len_spec {C:CallW} (P:Program):∀(h hm:Nat) (room now:Int) (l:List (Int×Int)) S H (K:AV→St→Prop),WhX H h hm room now l→K (.s (.int .i64 (l.length:Nat))) ⟨S,H⟩→runL C P Cz2u [.ptr (.heap h) 0] ⟨S,H⟩ K:=by
  intro h hm room now l S H K t hK
  have a0:=t.at0
  unfold wlc at a0
  have ll:=fun S'=>t.lenm (S:=S')
  simp only [Cz2u,A_,simprocAttr,ne_eq,Uz4n.1,CHK_,Nat.reduceBEq,a0,ll]
  exact hK
def WNowS (C:CallW) (f:FuncId):Prop:=∀(h hm:Nat) (room now:Int) (l:List (Int×Int)) S H (K:AV→St→Prop),WhX H h hm room now l→K (.s (.int .i64 now)) ⟨S,H⟩→C (.fn f) [.ptr (.heap h) 0] ⟨S,H⟩ K
theorem wheel_Now_spec {C:CallW} (P:Program):∀(h hm:Nat) (room now:Int) (l:List (Int×Int)) S H (K:AV→St→Prop),WhX H h hm room now l→K (.s (.int .i64 now)) ⟨S,H⟩→runL C P Cz2v [.ptr (.heap h) 0] ⟨S,H⟩ K:=by
  intro h hm room now l S H K t hK
  have a0:=t.at0
  unfold wlc at a0
  simp only [Cz2v,A_,simprocAttr,ne_eq,Uz4o.1,CHK_,Nat.reduceBEq,a0]
  exact hK
end Go.AM
namespace Go.AM
open Go
open AV renaming undef → uu
set_option maxRecDepth 20000
def ValsS (C:CallW) (f g:FuncId):Prop:=∀(hm:Nat) S H (K:AV→St→Prop),K (.fn (.func g) [] [.ptr (.heap H.length) 0]) ⟨S,H ++ [.cells [.map hm]]⟩→C (.fn f) [.map hm] ⟨S,H⟩ K
theorem maps_Values_spec {C:CallW} (P:Program) {c:Nat→FuncId}:∀(hm:Nat) S H (K:AV→St→Prop),K (.fn (.func (c 0)) [] [.ptr (.heap H.length) 0]) ⟨S,H ++ [.cells [.map hm]]⟩→runL C P (Cz2j c) [.map hm] ⟨S,H⟩ K:=by
  intro hm S H K hK
  simp only [Cz2j,A_,simprocAttr,ne_eq]
  exact hK
def ValsItS (C:CallW) (g:FuncId):Prop:=∀(G:List Int→List HObj) (N h bx hm c:Nat) (es:List Entry) (x:Entry→Int) (S:List (List AV)) (K:AV→St→Prop),(∀acc,(G acc).length=N)→(∀acc,(G acc)[bx]? = some (.cells [.map hm]))→(∀acc,(G acc)[hm]? = some (.map es c))→(es.map (·.born)).Nodup→(∀e∈es,e.born < c)→(∀e∈es,e.val=iA (x e)) →
  (∀acc v it S' (K':AV→St→Prop),acc.length < es.length→K' (.bool true) ⟨S',G (acc ++ [v]) ++ [it]⟩→C (.yield h) [.s (.int .i64 v)] ⟨S',G acc ++ [it]⟩ K')→(∀acc it,acc.Perm (es.map x)→K (.tup []) ⟨S,G acc ++ [it]⟩)→C (.fn g) [.yield h,.ptr (.heap bx) 0] ⟨S,G []⟩ K
set_option maxHeartbeats 4000000 in
theorem maps_Values1_spec {C:CallW} (hC:LeC C C) (P:Program):∀(G:List Int→List HObj) (N h bx hm c:Nat) (es:List Entry) (x:Entry→Int) (S:List (List AV)) (K:AV→St→Prop),(∀acc,(G acc).length=N)→(∀acc,(G acc)[bx]? = some (.cells [.map hm]))→(∀acc,(G acc)[hm]? = some (.map es c))→(es.map (·.born)).Nodup→(∀e∈es,e.born < c)→(∀e∈es,e.val=iA (x e)) →
  (∀acc v it S' (K':AV→St→Prop),acc.length < es.length→K' (.bool true) ⟨S',G (acc ++ [v]) ++ [it]⟩→C (.yield h) [.s (.int .i64 v)] ⟨S',G acc ++ [it]⟩ K')→(∀acc it,acc.Perm (es.map x)→K (.tup []) ⟨S,G acc ++ [it]⟩)→runL C P Czy [.yield h,.ptr (.heap bx) 0] ⟨S,G []⟩ K:=by
  intro G N h bx hm c es x S K hN hbx hmp hnd hlt hkey hy hK
  have b0:=hbx []
  simp only [Czy,A_,simprocAttr,ne_eq,Uz14.1,b0]
  rw [opS_rng rfl (hmp [])]
  simp only [Czy,A_,simprocAttr,ne_eq,Uz14.1,hN]
  refine loop_rule hC (α:=List Entry) (fun vs=>es.length - vs.length) (fun vs=>[.yield h,uu,uu,uu,uu,uu,.ptr (.heap N) 0,uu,uu,uu,uu,uu,uu,uu,uu]) (fun _=>S) (fun vs=>G (vs.map x) ++ [.iter ⟨some hm,c,vs.map (·.born),c⟩]) (fun vs=>(vs.map (·.born)).Nodup∧∀e∈vs,e∈es) [] ⟨.nil,fun e h=>by cases h⟩ (by simp [keep,zm]) (by rw [List.take_of_length_le (Nat.le_refl _)]) rfl (fun a _=>by simp [AV.under,AV.under.go]) ?_
  rintro vs ⟨hvn,hvs⟩ ih
  have hit:(G (vs.map x) ++ [.iter ⟨some hm,c,vs.map (·.born),c⟩])[N]? = some (.iter ⟨some hm,c,vs.map (·.born),c⟩):=by rw [←hN (vs.map x)]; simp
  have hmm:∀o,(G (vs.map x) ++ [o])[hm]? = some (.map es c):=fun o=>happ (hmp _)
  simp only [Czy,A_,simprocAttr,ne_eq,Uz14.1]
  rw [opS_nxt rfl hit rfl (hmm _)]
  refine ⟨?_,fun hall => ?_,fun e he hns => ?_⟩
  · cases vs with
    | nil=>exact .inl rfl
    | cons v vs=>exact .inr (.inr ⟨v,hvs v List.mem_cons_self,hlt v (hvs v List.mem_cons_self)⟩)
  · have hp:vs.Perm es:=by
      refine (List.perm_ext_iff_of_nodup ?_ ?_).2 fun e=>⟨hvs e,fun he => ?_⟩
      · exact List.Pairwise.of_map (·.born) (fun a b h e=>h (by rw [e])) hvn
      · exact List.Pairwise.of_map (·.born) (fun a b h e=>h (by rw [e])) hnd
      · rcases hall e he with h1 | h1
        · rw [List.mem_map] at h1
          obtain ⟨v,hv,hb⟩:=h1
          have q1:=born_find hnd (hvs v hv)
          have q2:=born_find hnd he
          rw [hb,q2] at q1
          rw [Option.some.inj q1]; exact hv
        · have:=hlt e he
          exact absurd h1 (by dsimp only; omega)
    simp only [Czy,A_,simprocAttr,ne_eq,Uz14.1]
    exact hK _ _ (hp.map x)
  · have hk:=hkey e he
    have hset:∀o o':HObj,(G (vs.map x) ++ [o]).set N o'=G (vs.map x) ++ [o']:=fun o o'=>by rw [←hN (vs.map x)]; simp
    have hit2:(G (vs.map x) ++ [.iter ⟨some hm,c,vs.map (·.born) ++ [e.born],c⟩])[N]? = some (.iter ⟨some hm,c,vs.map (·.born) ++ [e.born],c⟩):=by rw [←hN (vs.map x)]; simp
    dsimp only
    rw [hset]
    have hll:vs.length < es.length:=by
      have hb:((vs ++ [e]).map (·.born)).Nodup:=by
        rw [List.map_append,List.nodup_append]
        exact ⟨hvn,by simp,fun a ha b hb=>by
          have:b=e.born:=by simpa using hb
          subst this
          exact fun e2=>hns (e2▸ha)⟩
      have hnd2:(vs ++ [e]).Nodup:=List.Pairwise.of_map (·.born) (fun a b h e=>h (by rw [e])) hb
      have h1:(vs ++ [e]).length≤es.length:=hnd2.length_le_of_subset fun z hz=>by
        rcases List.mem_append.1 hz with hz | hz
        · exact hvs z hz
        · have:z=e:=by simpa using hz
          rw [this]; exact he
      simp at h1; omega
    simp only [Czy,A_,simprocAttr,ne_eq,Uz14.1]
    rw [opS_ent rfl hit2 rfl (hmm _) (b:=e.born) (by simp) rfl (born_find hnd he),hk]
    simp only [iA,Czy,A_,simprocAttr,ne_eq,Uz14.1]
    refine hy _ (x e) _ _ _ (by simpa using hll) ?_
    simp only [Czy,A_,simprocAttr,ne_eq,Uz14.1]
    refine ih (vs ++ [e]) _ _ _ (by simp; omega) ⟨?_,fun z hz => ?_⟩ (by simp [keep,zm]) (by rw [List.take_of_length_le (Nat.le_refl _)]) (by simp)
    · rw [List.map_append,List.nodup_append]
      exact ⟨hvn,by simp,fun a ha b hb=>by
        have:b=e.born:=by simpa using hb
        subst this
        exact fun e2=>hns (e2▸ha)⟩
    · rcases List.mem_append.1 hz with hz | hz
      · exact hvs z hz
      · have:z=e:=by simpa using hz
        rw [this]; exact he
structure MapV (H:List HObj) (bx hm c:Nat) (es:List Entry) (x:Entry→Int):Prop where
  box:H[bx]? = some (.cells [.map hm])
  map:H[hm]? = some (.map es c)
  nd:(es.map (·.born)).Nodup
  lt:∀e∈es,e.born < c
  val:∀e∈es,e.val=iA (x e)
  len:es.length≤1000000
def AppSeqVS (C:CallW) (f g:FuncId):Prop:=∀(bx hm c:Nat) (es:List Entry) (x:Entry→Int) S H (K:AV→St→Prop),MapV H bx hm c es x→(∀acc G,acc.Perm (es.map x)→K (slZ acc) ⟨S,H ++ G⟩)→C (.fn f) [.s .nilS,.fn (.func g) [] [.ptr (.heap bx) 0]] ⟨S,H⟩ K
set_option maxHeartbeats 4000000 in
theorem AppendSeq_specV {C:CallW} (hC:LeC C C) (P:Program) {c:Nat→FuncId} {as1 bd1:Code} {g:FuncId} (h1:ValsItS C g) (hB:hasBody P g=true) (hR:RoundOK C P (c 0) as1 bd1 (Cz1i).code (Cz1j).code):∀(bx hm cc:Nat) (es:List Entry) (x:Entry→Int) S H (K:AV→St→Prop),MapV H bx hm cc es x→(∀acc G,acc.Perm (es.map x)→K (slZ acc) ⟨S,H ++ G⟩)→runL C P (Cz1u c as1 bd1) [.s .nilS,.fn (.func g) [] [.ptr (.heap bx) 0]] ⟨S,H⟩ K:=by
  intro bx hm cc es x S H K hM hK
  have st:=fun {S:List (List AV)} {a:AV} {es':List AV} {G:List HObj}=>store_kept (S:=S) (H:=H) (G:=G) (a:=a) (es:=es')
  simp only [Cz1u,A_,simprocAttr,ne_eq,(Uz27 _ _ _).1,hB]
  refine h1 (fun acc=>H ++ [.cells [slZ acc],.loop ⟨c 0,[.s .nilS,.fn (.func g) [] [.ptr (.heap bx) 0],.ptr (.heap H.length) 0,.undef,.s .nilS,.undef,.fn (.func g) [] [.ptr (.heap bx) 0],uu,uu,uu,uu,uu,uu],[7],as1,bd1,true,none⟩]) (H.length + 2) (H.length + 1) bx hm cc es x S _ (fun acc=>by simp) (fun acc=>happ hM.box) (fun acc=>happ hM.map) hM.nd hM.lt hM.val (fun acc v it S' K' hacc hK' => ?_) (fun acc it hp => ?_)
  · have ha:∀(e:ET) (σ:St),e.c=1→e.bytes=8→appendL e false (slZ acc) (.list .full 1 [.s (.int .i64 v)]) σ=some (.list .uniq 1 ((acc ++ [v]).map iA),σ):=fun e σ h1 h2=>app_slZ h1 h2 (by have:=hM.len; omega)
    rw [List.append_assoc]
    refine hR _ _ _ _ _ _ _ (by rw [app_get]; rfl) rfl ?_
    simp only [Cz1i,Cz1j,A_,simprocAttr,ne_eq,(Uz27 _ _ _).1,load_kept,ha,st]
    rw [List.append_assoc,slZ_snoc] at hK'
    exact hK'
  · rw [List.append_assoc]
    simp only [Cz1u,A_,simprocAttr,ne_eq,(Uz27 _ _ _).1,load_kept]
    exact ⟨slZ_under,hK _ _ hp⟩
theorem Collect_specV {C:CallW} (P:Program) {c:Nat→FuncId} {g:FuncId} (h0:AppSeqVS C (c 0) g):∀(bx hm cc:Nat) (es:List Entry) (x:Entry→Int) S H (K:AV→St→Prop),MapV H bx hm cc es x→(∀acc G,acc.Perm (es.map x)→K (slZ acc) ⟨S,H ++ G⟩)→runL C P (Cz25 c) [.fn (.func g) [] [.ptr (.heap bx) 0]] ⟨S,H⟩ K:=by
  intro bx hm cc es x S H K hM hK
  simp only [Cz25,A_,simprocAttr,ne_eq,(Uz2o _).1]
  refine h0 bx hm cc es x S H _ hM fun acc G hp => ?_
  simp only [Cz25,A_,simprocAttr,ne_eq,(Uz2o _).1]
  exact ⟨slZ_under,hK _ _ hp⟩
def CollVS (C:CallW) (f g:FuncId):Prop:=∀(bx hm c:Nat) (es:List Entry) (x:Entry→Int) S H (K:AV→St→Prop),MapV H bx hm c es x→(∀acc G,acc.Perm (es.map x)→K (slZ acc) ⟨S,H ++ G⟩)→C (.fn f) [.fn (.func g) [] [.ptr (.heap bx) 0]] ⟨S,H⟩ K
def SortedVS (C:CallW) (f g:FuncId):Prop:=∀(bx hm c:Nat) (es:List Entry) (x:Entry→Int) S H (K:AV→St→Prop),MapV H bx hm c es x→(∀ids G,ids.Perm (es.map x)→ids.Pairwise (·≤·)→K (lstZ ids) ⟨S,H ++ G⟩)→C (.fn f) [.fn (.func g) [] [.ptr (.heap bx) 0]] ⟨S,H⟩ K
set_option maxHeartbeats 4000000 in
theorem Sorted_specV {C:CallW} (P:Program) {c:Nat→FuncId} {g:FuncId} (h0:CollVS C (c 0) g) (h1:SortIS C (c 1)) (h1n:OneN C (c 1) (.tup [])):∀(bx hm cc:Nat) (es:List Entry) (x:Entry→Int) S H (K:AV→St→Prop),MapV H bx hm cc es x→(∀ids G,ids.Perm (es.map x)→ids.Pairwise (·≤·)→K (lstZ ids) ⟨S,H ++ G⟩)→runL C P (Czz c) [.fn (.func g) [] [.ptr (.heap bx) 0]] ⟨S,H⟩ (WkK K):=by
  intro bx hm cc es x S H K hM hK
  have hfz:∀(e:ET) (σ:St),freezeL e (.s .nilS) σ=some (.s .nilS,σ):=fun _ _=>rfl
  simp only [Czz,A_,simprocAttr,ne_eq,(Uz15 _).1]
  refine h0 bx hm cc es x S H _ hM fun acc G hp => ?_
  have hal:acc.length≤1000000:=by have:=hp.length_eq; rw [List.length_map] at this; have:=hM.len; omega
  by_cases e:acc=[]
  · subst e
    simp only [Czz,A_,simprocAttr,ne_eq,(Uz15 _).1]
    rw [thaw_slZ0 rfl]
    simp only [Czz,A_,simprocAttr,ne_eq,(Uz15 _).1]
    refine h1n _ _ _ ?_
    simp only [Czz,A_,simprocAttr,ne_eq,(Uz15 _).1,slZ_nil,hfz]
    exact ⟨_,.inr (.nilS (by omega) .nil),hK [] G hp .nil⟩
  · simp only [Czz,A_,simprocAttr,ne_eq,(Uz15 _).1]
    rw [thaw_slZ e rfl]
    have hS1:(S ++ [flat iA (arrZ acc)])[S.length]? = some (flat iA (arrZ acc)):=by simp
    simp only [Czz,A_,simprocAttr,ne_eq,(Uz15 _).1,List.set_cons_zero,List.set_cons_succ]
    refine h1 S.length (arrZ acc) _ _ _ hS1 (by show acc.length≤_; omega) fun R hR1 hR2 => ?_
    have hRs:R.size=acc.length:=hR1.1
    have hset:∀x y:List AV,(S ++ [x]).set S.length y=S ++ [y]:=fun x y=>by simp
    rw [hset]
    have hS2:(S ++ [flat iA R])[S.length]? = some (flat iA R):=by simp
    have hf:∀{e:ET},e.c=1→e.ag=false→freezeL e (.row (.stk S.length) 0 acc.length acc.length) ⟨S ++ [flat iA R],H ++ G⟩=_:=fun h1 h2=>freeze_i (H:=H ++ G) h1 h2 hS2 (by omega)
    simp only [hset] at hf
    rw [List.take_of_length_le (by simp [hRs])] at hf
    simp only [Czz,A_,simprocAttr,ne_eq,(Uz15 _).1,hf]
    exact ⟨_,.inl rfl,hK R.toList G ((sorted_perm hR1).trans hp) (sorted_le hRs hR2)⟩
theorem WhX.vals {H:List HObj} {h hm:Nat} {room now:Int} {l:List (Int×Int)} (t:WhX H h hm room now l):∃es c x,MapV (H ++ [.cells [.map hm]]) H.length hm c es x∧(es.map x).Perm (l.map Prod.snd):=by
  obtain ⟨es,c,a,g⟩:=t.atm
  have hrel:=g.rel
  unfold RelM at hrel
  have hlen:es.length=l.length:=by have:=congrArg List.length hrel; simpa using this
  have hx:∀e∈es,e.val=iA (match e.val with | .s (.int _ v)=>v | _=>0):=by
    intro e he
    obtain ⟨j,hj,rfl⟩:=List.mem_iff_getElem.1 he
    have:=congrArg (fun z=>z[j]?) hrel
    have hj2:j < l.length:=by omega
    simp [hj,hj2] at this
    rw [this.2]; rfl
  refine ⟨es,c,fun e=>match e.val with | .s (.int _ v)=>v | _=>0,⟨by simp,happ a,g.nd,g.lt,hx,?_⟩,?_⟩
  · have:=t.len
    have:=t.rm
    omega
  · have:es.map (fun e=>(match e.val with | .s (.int _ v)=>v | _=>0:Int))=l.map Prod.snd:=by
      refine List.ext_getElem (by simpa using hlen) fun j h1 h2 => ?_
      have h1':j < es.length:=by simpa using h1
      have h2':j < l.length:=by simpa using h2
      have:=congrArg (fun z=>z[j]?) hrel
      simp [h1',h2'] at this
      rw [List.getElem_map,List.getElem_map,this.2]; rfl
    rw [this]
def WNextS (C:CallW) (f:FuncId):Prop:=∀(h hm:Nat) (room now:Int) (l:List (Int×Int)) S H (K:AV→St→Prop),WhX H h hm room now l→(∀(ids:List Int) (G:List HObj),ids.Perm (l.map Prod.snd)→ids.Pairwise (·≤·)→K (.tup [.s (.int .i64 (ids.headD 0)),.s (.bool (!ids.isEmpty))]) ⟨S,H ++ G⟩)→C (.fn f) [.ptr (.heap h) 0] ⟨S,H⟩ K
theorem wheel_Next_spec {C:CallW} (P:Program) {c:Nat→FuncId} {g:FuncId} (h0:ValsS C (c 0) g) (h1:SortedVS C (c 1) g):∀(h hm:Nat) (room now:Int) (l:List (Int×Int)) S H (K:AV→St→Prop),WhX H h hm room now l→(∀(ids:List Int) (G:List HObj),ids.Perm (l.map Prod.snd)→ids.Pairwise (·≤·)→K (.tup [.s (.int .i64 (ids.headD 0)),.s (.bool (!ids.isEmpty))]) ⟨S,H ++ G⟩)→runL C P (Cz1t c) [.ptr (.heap h) 0] ⟨S,H⟩ K:=by
  intro h hm room now l S H K t hK
  have a0:=t.at0
  unfold wlc at a0
  simp only [Cz1t,A_,simprocAttr,ne_eq,(Uz2d _).1,CHK_,Nat.reduceBEq,a0]
  refine h0 hm _ _ _ ?_
  obtain ⟨es,cc,x,hM,hp⟩:=t.vals
  simp only [Cz1t,A_,simprocAttr,ne_eq,(Uz2d _).1,CHK_,Nat.reduceBEq,a0]
  refine h1 _ hm cc es x _ _ _ hM fun ids G hi1 hi2 => ?_
  have hK:=hK ids (.cells [.map hm] :: G) (hi1.trans hp) hi2
  cases ids with
  | nil =>
    have z:((0:Int)=0)=True:=eq_true rfl
    simp only [lstZ,Cz1t,A_,simprocAttr,ne_eq,(Uz2d _).1,CHK_,Nat.reduceBEq,z]
    exact hK
  | cons y ids =>
    have z:(((ids.length + 1:Nat):Int)=0)=False:=eq_false (by omega)
    have x0:∀k:IntKind,indexAddrL (.sl 1) (.list .sh 1 (iA y :: ids.map iA)) (.s (.int k 0))=some (.rop [.s (.int .i64 y)]):=fun k=>by
      have:=ixl_map (f:=iA) (l:=y :: ids) (i:=0) (c:=1) (k:=k) (by simp) (by omega)
      exact this
    simp only [lstZ,Cz1t,A_,simprocAttr,ne_eq,(Uz2d _).1,CHK_,Nat.reduceBEq,z,x0]
    exact hK
end Go.AM
namespace Go.AM
open Go
open AV renaming undef → uu
set_option maxRecDepth 20000
theorem st1k {S:List (List AV)} {H:List HObj} {b off:Nat} {cs:List AV} {v:AV} (hb:H[b]? = some (.cells cs)) (h1:off < cs.length) (h2:v.cells=[v]) (h3:v.fit=true) (h4:AV.under 0 v=true):storeL 1 (.ptr (.heap b) off) v ⟨S,H⟩=some ⟨S,H.set b (.cells (cs.set off v))⟩:=by
  have hbo:boxOf ⟨S,H⟩ (.heap b)=some cs:=by simp [boxOf,hb]
  simp [storeL,h2,h3,writeCells,hbo,mayHold,AV.under.go,h4,splice,setBox]
  omega
theorem WhX.ents {H:List HObj} {h hm:Nat} {room now:Int} {l:List (Int×Int)} (t:WhX H h hm room now l):∃es c,∃px:Entry→Int×Int,H[hm]? = some (.map es c)∧(es.map (·.born)).Nodup∧(∀e∈es,e.born < c)∧(∀e∈es,e.key=iA (px e).1∧e.val=iA (px e).2)∧es.map px=l:=by
  obtain ⟨es,c,a,g⟩:=t.atm
  have hrel:=g.rel
  unfold RelM at hrel
  have hlen:es.length=l.length:=by have:=congrArg List.length hrel; simpa using this
  have hget:∀j (h1:j < es.length) (h2:j < l.length),es[j].key=iA l[j].1∧es[j].val=iA l[j].2:=by
    intro j h1 h2
    have:=congrArg (fun z=>z[j]?) hrel
    simp [h1,h2] at this
    exact this
  refine ⟨es,c,fun e=>(match e.key with | .s (.int _ v)=>v | _=>0,match e.val with | .s (.int _ v)=>v | _=>0),a,g.nd,g.lt,fun e he => ?_,?_⟩
  · obtain ⟨j,hj,rfl⟩:=List.mem_iff_getElem.1 he
    obtain ⟨q1,q2⟩:=hget j hj (by omega)
    dsimp only
    rw [q1,q2]; exact ⟨rfl,rfl⟩
  · refine List.ext_getElem (by simpa using hlen) fun j h1 h2 => ?_
    have h1':j < es.length:=by simpa using h1
    obtain ⟨q1,q2⟩:=hget j h1' h2
    rw [List.getElem_map,q1,q2]; rfl
def accW (px:Entry→Int×Int) (to:Int) (vs:List Entry):List Int:=((vs.map px).filter fun p=>decide (p.2≤to)).map Prod.fst
theorem accW_snoc {px:Entry→Int×Int} {to:Int} {vs:List Entry} {e:Entry}:accW px to (vs ++ [e])=if (px e).2≤to then accW px to vs ++ [(px e).1] else accW px to vs:=by
  unfold accW
  by_cases h:(px e).2≤to <;> simp [h,List.filter_append]
def befW (l:List (Int×Int)) (a b:Int):Prop:=dueOf l a < dueOf l b∨(dueOf l a=dueOf l b∧a < b)
def AdvS (C:CallW) (f:FuncId):Prop:=∀(h hm:Nat) (room now:Int) (l:List (Int×Int)) (to:Int) S H (K:AV→St→Prop),WhX H h hm room now l→(to < now→K (lstZ []) ⟨S,H⟩)→(now≤to→∀(H':List HObj) (ids:List Int),Ext H H' h hm→WhX H' h hm room to (l.filter fun p=>decide (to < p.2))→ids.Perm ((l.filter fun p=>decide (p.2≤to)).map Prod.fst)→ids.Pairwise (befW l)→K (lstZ ids) ⟨S,H'⟩)→C (.fn f) [.ptr (.heap h) 0,.s (.int .i64 to)] ⟨S,H⟩ K
theorem nd_fst {l:List (Int×Int)} (h:(l.map Prod.fst).Nodup) {p q:Int×Int} (hp:p∈l) (hq:q∈l) (e:p.1=q.1):p=q:=by
  obtain ⟨i,hi,rfl⟩:=List.mem_iff_getElem.1 hp
  obtain ⟨j,hj,rfl⟩:=List.mem_iff_getElem.1 hq
  by_cases ij:i=j
  · subst ij; rfl
  · have hi':i < (l.map Prod.fst).length:=by simpa using hi
    have hj':j < (l.map Prod.fst).length:=by simpa using hj
    have:=List.pairwise_iff_getElem.1 h
    rcases Nat.lt_or_gt_of_ne ij with q | q
    · exact absurd (by simpa using e) (this i j hi' hj' q)
    · exact absurd (by simpa using e.symm) (this j i hj' hi' q)
theorem adv_rest {l:List (Int×Int)} {to:Int} {ids:List Int} (hn:(l.map Prod.fst).Nodup) (hp:ids.Perm ((l.filter fun p=>decide (p.2≤to)).map Prod.fst)):(l.filter fun p=>decide (p.1∉ids))=l.filter fun p=>decide (to < p.2):=by
  refine List.filter_congr fun p hpl => ?_
  refine decide_eq_decide.2 ?_
  rw [hp.mem_iff,List.mem_map]
  constructor
  · intro q
    rcases Int.lt_or_le to p.2 with h | h
    · exact h
    · exact absurd ⟨p,List.mem_filter.2 ⟨hpl,decide_eq_true h⟩,rfl⟩ q
  · rintro h ⟨q,hq,e⟩
    obtain ⟨hq1,hq2⟩:=List.mem_filter.1 hq
    have:=nd_fst hn hq1 hpl e
    subst this
    have:=of_decide_eq_true hq2
    omega
theorem adv_nd {l:List (Int×Int)} {to:Int} {ids:List Int} (hn:(l.map Prod.fst).Nodup) (hp:ids.Perm ((l.filter fun p=>decide (p.2≤to)).map Prod.fst)):ids.Nodup:=hp.nodup_iff.2 (hn.sublist (List.Sublist.map _ List.filter_sublist))
theorem adv_sorted {l:List (Int×Int)} {R:Array Int} {n:Nat} (hR:R.size=n) (hn:R.toList.Nodup) (h:Sort.SortedIn (ltC (cvW (dueOf l))) 0 n R):R.toList.Pairwise (befW l):=by
  rw [List.pairwise_iff_getElem]
  intro i j hi hj hij
  have hj':j < R.size:=by simpa using hj
  have hi':i < R.size:=by simpa using hi
  have:=h i j (Nat.zero_le _) hij (by omega)
  rw [get_bang hj',get_bang hi',ltC_cvW] at this
  have this:=of_decide_eq_false this
  have hne:=List.pairwise_iff_getElem.1 hn i j hi hj hij
  generalize R.toList[i]=a at this hne ⊢
  generalize R.toList[j]=b at this hne ⊢
  unfold befW
  omega
set_option maxHeartbeats 16000000 in
theorem wheel_Advance_spec {C:CallW} (hC:LeC C C) (P:Program) {c:Nat→FuncId} (hA:CvS C (c 0)) (h1:∀r due,SortFS C (c 0) [.ptr (.stk r) 0] (cvW due) (c 1)) (h1n:SortFN C (c 1)):∀(h hm:Nat) (room now:Int) (l:List (Int×Int)) (to:Int) S H (K:AV→St→Prop),WhX H h hm room now l→(to < now→K (lstZ []) ⟨S,H⟩)→(now≤to→∀(H':List HObj) (ids:List Int),Ext H H' h hm→WhX H' h hm room to (l.filter fun p=>decide (to < p.2))→ids.Perm ((l.filter fun p=>decide (p.2≤to)).map Prod.fst)→ids.Pairwise (befW l)→K (lstZ ids) ⟨S,H'⟩)→runL C P (Czg c) [.ptr (.heap h) 0,.s (.int .i64 to)] ⟨S,H⟩ (WkK K):=by
  intro h hm room now l to S H K t hlow hK
  have hfz:∀(e:ET) (σ:St),freezeL e (.s .nilS) σ=some (.s .nilS,σ):=fun _ _=>rfl
  have a0:=t.at0
  unfold wlc at a0
  by_cases hto:to < now
  · simp only [Czg,A_,simprocAttr,ne_eq,(Uzj _).1,CHK_,Nat.reduceBEq,a0,hto]
    exact ⟨_,.inr (.nilS (by omega) .nil),hlow hto⟩
  have hK:=hK (by omega)
  clear hlow
  have hst:=fun S'=>st1k (S:=S') (off:=1) (v := .s (.int .i64 to)) a0 (by simp) rfl rfl rfl
  have t1:=t.setn (now':=to)
  have k1:Ext H (H.set h (.cells (wlc room to hm))) h hm := .set1
  have hst:∀S',storeL 1 (.ptr (.heap h) 1) (.s (.int .i64 to)) ⟨S',H⟩=some ⟨S',H.set h (.cells (wlc room to hm))⟩:=hst
  generalize H.set h (.cells (wlc room to hm))=H1 at t1 hst k1
  have a1:=t1.at0
  unfold wlc at a1
  obtain ⟨es,cc,px,am,hnd,hlt,hkv,hmap⟩:=t1.ents
  have hel:es.length=l.length:=by rw [←hmap]; simp
  have hl1:l.length≤1000:=by have:=t.len; have:=t.rm; omega
  simp only [Czg,A_,simprocAttr,ne_eq,(Uzj _).1,CHK_,Nat.reduceBEq,a0,hto,hst,a1]
  rw [opS_rng rfl am]
  simp only [Czg,A_,simprocAttr,ne_eq,(Uzj _).1,CHK_,Nat.reduceBEq]
  refine loop_rule hC (α:=List Entry) (fun vs=>es.length - vs.length) (fun vs=>[.undef,.s (.int .i64 to),.ptr (.stk S.length) 0,uu,uu,slZ (accW px to vs),uu,uu,uu,uu,uu,uu,uu,uu,uu,uu,uu,uu,uu,uu,uu,uu,uu,uu,.ptr (.heap H1.length) 0,uu,uu,uu,uu,uu,uu,uu,uu,uu,uu,uu,uu,uu,uu,uu,uu,uu,uu,uu,uu,uu,uu,uu,uu,uu,uu,uu,uu]) (fun _=>S ++ [[.ptr (.heap h) 0]]) (fun vs=>H1 ++ [.iter ⟨some hm,cc,vs.map (·.born),cc⟩]) (fun vs=>(vs.map (·.born)).Nodup∧∀e∈vs,e∈es) [] ⟨.nil,fun e h=>by cases h⟩ (by simp [keep,zm,accW,slZ_nil]) (by rw [app_take_add]; rfl) rfl (fun a _=>by simp [AV.under,AV.under.go,slZ_under]) ?_
  rintro vs ⟨hvn,hvs⟩ ih
  have hit:(H1 ++ [.iter ⟨some hm,cc,vs.map (·.born),cc⟩])[H1.length]? = some (.iter ⟨some hm,cc,vs.map (·.born),cc⟩):=by simp
  have hmm:∀o,(H1 ++ [o])[hm]? = some (.map es cc):=fun o=>happ am
  simp only [Czg,A_,simprocAttr,ne_eq,(Uzj _).1]
  rw [opS_nxt rfl hit rfl (hmm _)]
  refine ⟨?_,fun hall => ?_,fun e he hns => ?_⟩
  · cases vs with
    | nil=>exact .inl rfl
    | cons v vs=>exact .inr (.inr ⟨v,hvs v List.mem_cons_self,hlt v (hvs v List.mem_cons_self)⟩)
  · have hp:vs.Perm es:=by
      refine (List.perm_ext_iff_of_nodup ?_ ?_).2 fun e=>⟨hvs e,fun he => ?_⟩
      · exact List.Pairwise.of_map (·.born) (fun a b h e=>h (by rw [e])) hvn
      · exact List.Pairwise.of_map (·.born) (fun a b h e=>h (by rw [e])) hnd
      · rcases hall e he with h1 | h1
        · rw [List.mem_map] at h1
          obtain ⟨v,hv,hb⟩:=h1
          have q1:=born_find hnd (hvs v hv)
          have q2:=born_find hnd he
          rw [hb,q2] at q1
          rw [Option.some.inj q1]; exact hv
        · have:=hlt e he
          exact absurd h1 (by dsimp only; omega)
    have hacc:(accW px to vs).Perm ((l.filter fun p=>decide (p.2≤to)).map Prod.fst):=by
      unfold accW
      rw [←hmap]
      exact ((hp.map px).filter _).map _
    generalize accW px to vs=acc at hacc
    have t2:WhX (H1 ++ [.iter ⟨some hm,cc,vs.map (·.born),cc⟩]) h hm room to l:=t1.app
    have k2:Ext H (H1 ++ [.iter ⟨some hm,cc,vs.map (·.born),cc⟩]) h hm:=k1.trans .app
    clear ih hit hmm hall
    generalize H1 ++ [.iter ⟨some hm,cc,vs.map (·.born),cc⟩]=H2 at t2 k2 ⊢
    have hal:acc.length≤1000000:=by
      have h3:=hacc.length_eq
      rw [List.length_map] at h3
      have:=List.length_filter_le (fun p:Int×Int=>decide (p.2≤to)) l
      omega
    by_cases e:acc=[]
    · subst e
      simp only [Czg,A_,simprocAttr,ne_eq,(Uzj _).1]
      rw [thaw_slZ0 rfl]
      have hu:AV.under.go (S.length + 1) [.ptr (.stk S.length) 0]=true:=by simp [AV.under,AV.under.go]
      simp only [Czg,A_,simprocAttr,ne_eq,(Uzj _).1,slZ_nil]
      refine h1n _ _ _ _ _ (by simpa using hu) ?_
      have z:((0:Int) < 0)=False:=eq_false (by omega)
      simp only [Czg,A_,simprocAttr,ne_eq,(Uzj _).1,slZ_nil]
      refine loop_ruleS hC (α:=Unit) (fun _=>0) (fun _=>[uu,uu,.ptr (.stk S.length) 0,uu,uu,.s .nilS,uu,uu,uu,uu,uu,uu,uu,uu,uu,uu,uu,uu,uu,uu,uu,uu,uu,uu,uu,uu,uu,uu,uu,uu,uu,uu,uu,uu,uu,uu,uu,uu,uu,uu,.s .nilS,.s (.int .i64 0),.s (.int .i64 0),uu,uu,uu,uu,uu,uu,uu,uu,uu,uu]) (fun _=>True) () trivial (by simp [keep,zm]) (by rw [app_take_add]; rfl) (fun a _=>by simp [AV.under,AV.under.go]) ?_
      rintro _ _ ih2
      simp only [Czg,A_,simprocAttr,ne_eq,(Uzj _).1,hfz,z]
      refine ⟨_,.inr (.nilS (by omega) .nil),hK H2 [] k2 ?_ hacc .nil⟩
      have:=adv_rest t.nd hacc
      rw [←this,List.filter_eq_self.2 fun p _=>by simp]
      exact t2
    · simp only [Czg,A_,simprocAttr,ne_eq,(Uzj _).1]
      rw [thaw_slZ e rfl]
      simp only [Czg,A_,simprocAttr,ne_eq,(Uzj _).1,List.set_cons_zero,List.set_cons_succ]
      have hds:(arrZ acc).size=acc.length:=rfl
      have hnd2:=t.nd
      have hS1:(S ++ [[.ptr (.heap h) 0],flat iA (arrZ acc)])[S.length + 1]? = some (flat iA (arrZ acc)):=app_get _ _ 1
      refine h1 S.length (dueOf l) (S.length + 1) (arrZ acc) _ _ _ ⟨fun k hk => ?_,fun x y S' K' hS' hK' => ?_⟩ hS1 (by rw [hds]; omega) fun R hR1 hR2 => ?_
      · simp at hk
        simp [AV.under,AV.under.go]
        omega
      · refine hA h hm S.length room to l x y S' H2 K' t2 ?_ hK'
        rw [hS' S.length (by simp) (by omega) (by omega)]
        exact app_get0 _ _
      have hRs:R.size=acc.length:=hR1.1
      have hRp:R.toList.Perm ((l.filter fun p=>decide (p.2≤to)).map Prod.fst):=(sorted_perm hR1).trans hacc
      have hRn:=adv_nd hnd2 hRp
      have hRo:=adv_sorted (l:=l) hRs hRn (by rw [←hRs]; rw [hds,←hRs] at hR2; exact hR2)
      have hrest:=adv_rest hnd2 hRp
      have hset:∀x y:List AV,(S ++ [[.ptr (.heap h) 0],x]).set (S.length + 1) y=S ++ [[.ptr (.heap h) 0],y]:=fun x y=>app_set _ _ 1 _
      rw [hset]
      have hS2:(S ++ [[.ptr (.heap h) 0],flat iA R])[S.length + 1]? = some (flat iA R):=app_get _ _ 1
      have hK:=fun H' q1 q2=>hK H' R.toList q1 q2 hRp hRo
      generalize acc.length=N at hRs hal ⊢
      simp only [Czg,A_,simprocAttr,ne_eq,(Uzj _).1]
      refine loop_rule hC (α:=Nat×List HObj) (fun x=>N - x.1) (fun x=>[uu,uu,.ptr (.stk S.length) 0,uu,uu,.row (.stk (S.length + 1)) 0 N N,uu,uu,uu,uu,uu,uu,uu,uu,uu,uu,uu,uu,uu,uu,uu,uu,uu,uu,uu,uu,uu,uu,uu,uu,uu,uu,uu,uu,uu,uu,uu,uu,uu,uu,.row (.stk (S.length + 1)) 0 N N,.s (.int .i64 (N:Nat)),.s (.int .i64 (x.1:Nat)),uu,uu,uu,uu,uu,uu,uu,uu,uu,uu]) (fun _=>S ++ [[.ptr (.heap h) 0],flat iA R]) (fun x=>x.2) (fun x=>x.1≤N∧WhX x.2 h hm room to (l.filter fun p=>decide (p.1∉R.toList.take x.1))∧Ext H x.2 h hm) (0,H2) ⟨Nat.zero_le _,by dsimp only; rw [List.filter_eq_self.2 fun p _=>by simp]; exact t2,k2⟩ (by simp [keep,zm]) (by rw [app_take_add]; rfl) rfl (fun x _=>by simp [AV.under,AV.under.go]) ?_
      rintro ⟨k,Hk⟩ ⟨hk,tk,kk⟩ ih2
      dsimp only at hk tk kk ih2 ⊢
      by_cases hkN:k < N
      · have hltk:((k:Int) < (N:Int)):=by omega
        have hwk:=wrap_succ (i:=k) (by omega)
        have x1:∀q:IntKind,indexAddrL (.sl 1) (.row (.stk (S.length + 1)) 0 N N) (.s (.int q (k:Int)))=some (.ptr (.stk (S.length + 1)) k):=fun q=>ixi hkN
        have r1:=ird (H:=Hk) hS2 (i:=k) (by omega)
        have ak:=tk.at0
        unfold wlc at ak
        obtain ⟨es2,c2,hdel,t3⟩:=tk.del R[k]!
        have htk:R.toList.take (k + 1)=R.toList.take k ++ [R[k]!]:=take_at (by omega)
        have e3:delW (l.filter fun p=>decide (p.1∉R.toList.take k)) R[k]! = l.filter fun p=>decide (p.1∉R.toList.take (k + 1)):=by
          unfold delW
          rw [List.filter_filter,htk]
          refine List.filter_congr fun p _ => ?_
          simp only [List.mem_append,List.mem_singleton,not_or]
          rw [Bool.decide_and,Bool.and_comm]
        rw [e3] at t3
        simp only [Czg,A_,simprocAttr,ne_eq,(Uzj _).1,hltk,x1,r1,ak,hdel,hwk]
        exact ih2 (k + 1,_) _ _ _ (by dsimp only; omega) ⟨by dsimp only; omega,t3,kk.trans .set2⟩ (by simp [keep,zm]) (by rw [app_take_add]; rfl) rfl
      · have hltk:¬((k:Int) < (N:Int)):=by omega
        rw [List.take_of_length_le (by simp; omega),hrest] at tk
        have hf:∀{e:ET},e.c=1→e.ag=false→freezeL e (.row (.stk (S.length + 1)) 0 N N) ⟨S ++ [[.ptr (.heap h) 0],flat iA R],Hk⟩=_:=fun h1 h2=>freeze_i (H:=Hk) h1 h2 hS2 (by omega)
        simp only [hset] at hf
        rw [List.take_of_length_le (by simp [hRs])] at hf
        simp only [Czg,A_,simprocAttr,ne_eq,(Uzj _).1,hltk,hf]
        exact ⟨_,.inl rfl,hK Hk kk tk⟩
  · have hk:=hkv e he
    have hit2:(H1 ++ [.iter ⟨some hm,cc,vs.map (·.born) ++ [e.born],cc⟩])[H1.length]? = some (.iter ⟨some hm,cc,vs.map (·.born) ++ [e.born],cc⟩):=by simp
    have hset:∀o o':HObj,(H1 ++ [o]).set H1.length o'=H1 ++ [o']:=fun o o'=>by simp
    have hb:((vs ++ [e]).map (·.born)).Nodup:=by
      rw [List.map_append,List.nodup_append]
      exact ⟨hvn,by simp,fun a ha b hb=>by
        have:b=e.born:=by simpa using hb
        subst this
        exact fun e2=>hns (e2▸ha)⟩
    have hmem:∀z∈vs ++ [e],z∈es:=fun z hz=>by
      rcases List.mem_append.1 hz with hz | hz
      · exact hvs z hz
      · have:z=e:=by simpa using hz
        rw [this]; exact he
    have hll:vs.length < es.length:=by
      have hnd2:(vs ++ [e]).Nodup:=List.Pairwise.of_map (·.born) (fun a b h e=>h (by rw [e])) hb
      have h1:(vs ++ [e]).length≤es.length:=hnd2.length_le_of_subset hmem
      simp at h1; omega
    have hacl:(accW px to vs).length≤1000000:=by
      unfold accW
      rw [List.length_map]
      have:=List.length_filter_le (fun p:Int×Int=>decide (p.2≤to)) (vs.map px)
      rw [List.length_map] at this
      omega
    have hsn:=accW_snoc (px:=px) (to:=to) (vs:=vs) (e:=e)
    have ihx:=ih (vs ++ [e])
    clear ih
    dsimp only at ihx
    rw [hsn,show (vs ++ [e]).map (·.born)=vs.map (·.born) ++ [e.born] by simp] at ihx
    dsimp only
    rw [hset]
    simp only [Czg,A_,simprocAttr,ne_eq,(Uzj _).1]
    rw [opS_ent rfl hit2 rfl (hmm _) (b:=e.born) (by simp) rfl (born_find hnd he),hk.1,hk.2]
    generalize px e=pe at *
    obtain ⟨i,a⟩:=pe
    dsimp only at *
    by_cases hd:a≤to
    · rw [if_pos hd] at ihx
      have ha:∀(e:ET) (σ:St),e.c=1→e.bytes=8→appendL e false (slZ (accW px to vs)) (.list .full 1 [.s (.int .i64 i)]) σ=some (slZ (accW px to vs ++ [i]),σ):=fun e σ h1 h2=>by rw [slZ_snoc]; exact app_slZ h1 h2 hacl
      by_cases hz:accW px to vs=[]
      · rw [hz] at ha ihx ⊢
        simp only [slZ_nil] at ha ihx ⊢
        simp only [iA,Czg,A_,simprocAttr,ne_eq,(Uzj _).1,hd,ha,bslL,fillE,List.isEmpty_cons,List.isEmpty_nil]
        exact ihx _ _ _ (by simp; omega) ⟨by rw [List.map_append] at hb; exact hb,hmem⟩ (by simp [keep,zm]) (by rw [app_take_add]; rfl) rfl
      · obtain ⟨es3,he3⟩:∃es3,slZ (accW px to vs) = .list .uniq 1 es3:=⟨_,if_neg hz⟩
        rw [he3] at ha ⊢
        simp only [iA,Czg,A_,simprocAttr,ne_eq,(Uzj _).1,hd,ha,bslL,fillE,List.isEmpty_cons,List.isEmpty_nil]
        exact ihx _ _ _ (by simp; omega) ⟨by rw [List.map_append] at hb; exact hb,hmem⟩ (by simp [keep,zm]) (by rw [app_take_add]; rfl) rfl
    · rw [if_neg hd] at ihx
      simp only [iA,Czg,A_,simprocAttr,ne_eq,(Uzj _).1,hd]
      exact ihx _ _ _ (by simp; omega) ⟨by rw [List.map_append] at hb; exact hb,hmem⟩ (by simp [keep,zm]) (by rw [app_take_add]; rfl) rfl
end Go.AM
namespace Go.AM
open Go
set_option maxRecDepth 20000
end Go.AM
namespace Go.AM
open Go
set_option maxRecDepth 20000
end Go.AM
namespace Go.AM
open Go
open AV renaming undef → uu
set_option maxRecDepth 20000
theorem ixl_n {l:List Int} {i:Nat} (h:i < l.length) (k:IntKind):indexAddrL (.sl 1) (.list .sh 1 (l.map pI)) (.s (.int k (i:Int)))=some (.rop [.s (.int .i64 l[i])]):=ixl_map h (by omega)
def SameIS (C:CallW) (f:FuncId):Prop:=∀(a b:List Int) S H (K:AV→St→Prop),a.length≤1000000→b.length≤1000000→K (.bool (decide (a=b))) ⟨S,H⟩→C (.fn f) [lstN a,lstN b] ⟨S,H⟩ K
set_option maxHeartbeats 4000000 in
theorem sameI_spec {C:CallW} (hC:LeC C C) (P:Program):∀(a b:List Int) S H (K:AV→St→Prop),a.length≤1000000→b.length≤1000000→K (.bool (decide (a=b))) ⟨S,H⟩→runL C P Cz12 [lstN a,lstN b] ⟨S,H⟩ K:=by
  intro a b S H K ha hb hK
  by_cases hl:a.length=b.length
  case neg =>
    have hl':((a.length:Int)=(b.length:Int))=False:=eq_false (by omega)
    rw [decide_eq_false (fun e=>hl (by rw [e]))] at hK
    simp only [lstN,Cz12,A_,simprocAttr,ne_eq,Uz1h.1,hl']
    exact hK
  have hl':((a.length:Int)=(b.length:Int))=True:=eq_true (by omega)
  simp only [lstN,Cz12,A_,simprocAttr,ne_eq,Uz1h.1,hl']
  refine loop_rule hC (α:=Nat) (fun x=>a.length - x) (fun x=>[.list .sh 1 (a.map pI),.list .sh 1 (b.map pI),uu,uu,uu,.s (.int .i64 (x:Nat)),uu,uu,uu,uu,uu,uu,uu,uu,uu,uu,uu,uu,uu,uu,uu,uu,uu,uu,uu,uu]) (fun _=>S) (fun _=>H) (fun i=>i≤a.length∧a.take i=b.take i) 0 ⟨by simp,rfl⟩ (by simp [keep,zm]) (by simp) rfl (fun i hi=>by simp [AV.under,AV.under.go]) ?_
  rintro i ⟨hi,hinv⟩ ih
  by_cases h16:i < a.length
  · have h17:i < b.length:=by omega
    have hlt:((i:Int) < (a.length:Int)):=by omega
    have hw:=wrap_succ (i:=i) (by omega)
    have x1:=ixl_n h16
    have x2:=ixl_n h17
    simp only [Cz12,A_,simprocAttr,ne_eq,Uz1h.1,hlt,x1,x2]
    by_cases he:a[i]=b[i]
    · have he':(a[i]=b[i])=True:=eq_true he
      simp only [Cz12,A_,simprocAttr,ne_eq,Uz1h.1,he',hw]
      exact ih (i + 1) _ _ _ (by omega) ⟨by omega,by rw [List.take_succ_eq_append_getElem h16,List.take_succ_eq_append_getElem h17,hinv,he]⟩ (by simp [keep,zm]) (by simp) rfl
    · have he':(a[i]=b[i])=False:=eq_false he
      rw [decide_eq_false (fun e=>he (by subst e; rfl))] at hK
      simp only [Cz12,A_,simprocAttr,ne_eq,Uz1h.1,he']
      exact hK
  · have hlt:¬((i:Int) < (a.length:Int)):=by omega
    rw [List.take_of_length_le (by omega),List.take_of_length_le (by omega)] at hinv
    rw [decide_eq_true hinv] at hK
    simp only [Cz12,A_,simprocAttr,ne_eq,Uz1h.1,hlt]
    exact hK
end Go.AM
namespace Go.AM
open Go
set_option maxRecDepth 20000
theorem ids_eq {ids m:List Int} (hp:ids.Perm m) (h1:ids.Pairwise (·≤·)) (h2:m.Pairwise (·≤·)):ids=m:=List.Perm.eq_of_pairwise (le:=fun a b:Int=>a≤b) (fun a b _ _ h1 h2=>by omega) h1 h2 hp
theorem ids_eqW {l:List (Int×Int)} {ids m:List Int} (hp:ids.Perm m) (h1:ids.Pairwise (befW l)) (h2:m.Pairwise (befW l)):ids=m:=List.Perm.eq_of_pairwise (le:=befW l) (fun a b _ _ h1 h2=>by unfold befW at h1 h2; omega) h1 h2 hp
theorem reP0:refEq 0 (.s .nilP) (.s .nilP)=some true:=rfl
theorem reP1 {n:Nat}:refEq 0 (.ptr (.heap n) 0) (.s .nilP)=some false:=rfl
theorem lst_wkZ {a:AV} {l:List Int}:WkF [a,.list .full 1 (l.map iA)] [a,lstZ l] := .same (.wk (show WkL [.list .full 1 (l.map iA)] [lstZ l] from .full .nil) .nil)
def AwWS (C:CallW) (f:FuncId):Prop:=∀S H (K:AV→St→Prop),(∀H',K (.bool true) ⟨S,H'⟩)→C (.fn f) [] ⟨S,H⟩ K
set_option maxHeartbeats 8000000 in
theorem law21_awake_spec {C:CallW} (hC:LeC C C) (hW:WkC C) (P:Program) {c:Nat→FuncId} (h0:NewWS C (c 0)) (h1:SetWS C (c 1)) (h2:WNextS C (c 2)) (h3:AdvS C (c 3)) (h4:SameIS C (c 4)) (h5:WLenS C (c 5)) (h6:WNowS C (c 6)):∀S H (K:AV→St→Prop),(∀H',K (.bool true) ⟨S,H'⟩)→runL C P (Czo c) [] ⟨S,H⟩ K:=by
  intro S H K hK
  simp only [Czo,A_,simprocAttr,ne_eq,(Uzt _).1]
  refine h0 5 _ _ _ (fun q=>absurd q (by omega)) fun _ _ t => ?_
  generalize H ++ [HObj.map [] 0,.cells (wlc 5 0 H.length)]=H0 at t ⊢
  generalize H.length + 1=h at t ⊢
  generalize H.length=hm at t
  simp only [Czo,A_,simprocAttr,ne_eq,(Uzt _).1,reP0,reP1]
  refine h1 h hm 5 0 [] 2 5 _ _ _ t fun H1 _ t => ?_
  have e1:setW 5 0 [] 2 5=(0,[(2,5)]):=rfl
  rw [e1] at t ⊢
  simp only [Czo,A_,simprocAttr,ne_eq,(Uzt _).1]
  refine h1 h hm 5 0 [(2,5)] 1 5 _ _ _ t fun H2 _ t => ?_
  have e2:setW 5 0 [(2,5)] 1 5=(0,[(2,5),(1,5)]):=rfl
  rw [e2] at t ⊢
  simp only [Czo,A_,simprocAttr,ne_eq,(Uzt _).1]
  refine h1 h hm 5 0 [(2,5),(1,5)] 3 4 _ _ _ t fun H3 _ t => ?_
  have e3:setW 5 0 [(2,5),(1,5)] 3 4=(0,[(2,5),(1,5),(3,4)]):=rfl
  rw [e3] at t ⊢
  simp only [Czo,A_,simprocAttr,ne_eq,(Uzt _).1]
  refine h2 h hm 5 0 [(2,5),(1,5),(3,4)] _ _ _ t fun ids G hp hs => ?_
  have hi:ids=[4,5,5]:=ids_eq (hp.trans (by decide)) hs (by decide)
  rw [hi]
  simp only [List.headD_cons,List.isEmpty_cons,Bool.not_false,Czo,A_,simprocAttr,ne_eq,(Uzt _).1]
  refine h3 h hm 5 0 [(2,5),(1,5),(3,4)] 5 _ _ _ t.app (fun q=>absurd q (by omega)) fun _ H4 ids2 _ t hp hs => ?_
  have hi:ids2=[3,1,2]:=ids_eqW (hp.trans (by decide)) hs (by simp [befW,dueOf,getB])
  rw [hi]
  have t:WhX H4 h hm 5 5 []:=t
  simp only [Czo,A_,simprocAttr,ne_eq,(Uzt _).1,bslL,fillE,List.isEmpty_cons,List.isEmpty_nil]
  refine hW _ _ _ _ _ (lst_wkZ (l:=[3,1,2])) (h4 [3,1,2] [3,1,2] _ _ _ (by decide) (by decide) ?_)
  rw [decide_eq_true rfl]
  simp only [Czo,A_,simprocAttr,ne_eq,(Uzt _).1]
  refine h5 h hm 5 5 [] _ _ _ t ?_
  simp only [Czo,A_,simprocAttr,ne_eq,(Uzt _).1]
  refine h6 h hm 5 5 [] _ _ _ t ?_
  simp only [Czo,A_,simprocAttr,ne_eq,(Uzt _).1]
  exact hK _
end Go.AM
namespace Go.AM
open Go
open AV renaming undef → uu
set_option maxRecDepth 20000
def enW (l:List Int) (n:Nat):List (Int×Int):=(List.range n).map fun (j:Nat)=>((j:Int),l.getD j 0)
theorem enW_succ (l:List Int) (n:Nat):enW l (n + 1)=enW l n ++ [((n:Int),l.getD n 0)]:=by unfold enW; rw [List.range_succ,List.map_append]; rfl
theorem enW_len (l:List Int) (n:Nat):(enW l n).length=n:=by simp [enW]
theorem enW_mem {l:List Int} {n:Nat} {p:Int×Int} (h:p∈enW l n):∃j,j < n∧p=((j:Int),l.getD j 0):=by
  unfold enW at h
  obtain ⟨j,hj,rfl⟩:=List.mem_map.1 h
  exact ⟨j,List.mem_range.1 hj,rfl⟩
theorem enW_set {l:List Int} {n:Nat} {a:Int} (ha:1≤a) (hn:n < 100):setW 100 0 (enW l n) (n:Int) a=(0,enW l n ++ [((n:Int),a)]):=by
  have hno:∀y∈enW l n,y.1≠(n:Int):=by
    intro y hy e
    obtain ⟨j,hj,rfl⟩:=enW_mem hy
    dsimp only at e
    omega
  unfold setW
  rw [if_neg (by omega),if_neg (by rw [enW_len]; omega),putB_new (x:=((n:Int),a)) hno]
theorem due_mem {l:List (Int×Int)} (hn:(l.map Prod.fst).Nodup) {p:Int×Int} (h:p∈l):dueOf l p.1=p.2:=by
  unfold dueOf
  cases hg:getB Prod.fst l p.1 with
  | none=>exact absurd rfl (getB_none hg p h)
  | some q =>
    obtain ⟨q1,q2⟩:=getB_mem hg
    rw [nd_fst hn q1 h q2]
theorem split_len (l:List (Int×Int)) (now:Int):(l.filter fun p=>decide (p.2≤now)).length + (l.filter fun p=>decide (now < p.2)).length=l.length:=by
  induction l with
  | nil=>rfl
  | cons x l ih =>
    by_cases h:x.2≤now
    · have h2:¬now < x.2:=by omega
      simp [List.filter_cons,h,h2]; omega
    · have h2:now < x.2:=by omega
      simp [List.filter_cons,h,h2]; omega
theorem split_len2 (l:List (Int×Int)) {now to:Int} (hle:now≤to):(l.filter fun p=>decide (p.2≤now)).length + ((l.filter fun p=>decide (now < p.2)).filter fun p=>decide (p.2≤to)).length=(l.filter fun p=>decide (p.2≤to)).length:=by
  rw [List.filter_filter]
  induction l with
  | nil=>rfl
  | cons x l ih =>
    by_cases h:x.2≤now
    · have h2:¬now < x.2:=by omega
      have h3:x.2≤to:=by omega
      simp [List.filter_cons,h,h2,h3]; omega
    · have h2:now < x.2:=by omega
      by_cases h3:x.2≤to
      · simp [List.filter_cons,h,h2,h3]; omega
      · simp [List.filter_cons,h,h2,h3]; omega
theorem later_later {l:List (Int×Int)} {now to:Int} (hle:now≤to):((l.filter fun p=>decide (now < p.2)).filter fun p=>decide (to < p.2))=l.filter fun p=>decide (to < p.2):=by
  rw [List.filter_filter]
  refine List.filter_congr fun p _ => ?_
  by_cases h:to < p.2
  · have:now < p.2:=by omega
    simp [h,this]
  · simp [h]
theorem ixl_iA {l:List Int} {i:Nat} (h:i < l.length) (k:IntKind):indexAddrL (.sl 1) (.list .sh 1 (l.map iA)) (.s (.int k (i:Int)))=some (.rop [.s (.int .i64 l[i])]):=ixl_map h (by omega)
theorem told_mem {at_:List Int} {now to:Int} {ids:List Int} (hp:ids.Perm (((((enW at_ at_.length).filter fun p=>decide (now < p.2)).filter fun p=>decide (p.2≤to))).map Prod.fst)) {k:Nat} (hk:k < ids.length):∃j,∃h:j < at_.length,ids[k]=(j:Int)∧now < at_[j]∧at_[j]≤to∧((j:Int),at_[j])∈(enW at_ at_.length).filter fun p=>decide (now < p.2):=by
  have h1:=hp.mem_iff.1 (List.getElem_mem hk)
  obtain ⟨p,hp1,hp2⟩:=List.mem_map.1 h1
  obtain ⟨h3,h4⟩:=List.mem_filter.1 hp1
  obtain ⟨h5,h6⟩:=List.mem_filter.1 h3
  obtain ⟨j,hj,e⟩:=enW_mem h5
  have e2:at_.getD j 0=at_[j]:=by simp [List.getD,hj]
  rw [e2] at e
  subst e
  exact ⟨j,hj,hp2.symm,of_decide_eq_true h6,of_decide_eq_true h4,h3⟩
theorem enW_nd (l:List Int) (n:Nat):((enW l n).map Prod.fst).Nodup:=by
  unfold enW
  rw [List.map_map]
  have:(Prod.fst ∘ fun j:Nat=>((j:Int),l.getD j 0))=fun j:Nat=>(j:Int):=rfl
  rw [this]
  exact List.Pairwise.map _ (fun a b h e=>h (by exact_mod_cast e)) List.nodup_range
set_option maxHeartbeats 32000000 in
theorem WheelOnce_spec {C:CallW} (hC:LeC C C) (P:Program) {c:Nat→FuncId} (h0:AwWS C (c 0)) (h1:NewWS C (c 1)) (h2:SetWS C (c 2)) (h3:AdvS C (c 3)) (h4:WLenS C (c 4)):∀(at_ steps:List Int) S H (K:AV→St→Prop),at_.length≤9223372036854775807→steps.length≤9223372036854775807→(∀H',K (.bool true) ⟨S,H'⟩)→runL C P (Cz8 c) [lstN at_,lstN steps] ⟨S,H⟩ K:=by
  intro at_ steps S H K hal hsl hK
  simp only [lstN,Cz8,A_,simprocAttr,ne_eq,(Uz9 _).1]
  refine h0 _ _ _ fun H1 => ?_
  by_cases h40:40 < at_.length
  · have e1:((40:Int) < (at_.length:Int))=True:=eq_true (by omega)
    simp only [Cz8,A_,simprocAttr,ne_eq,(Uz9 _).1,e1]
    exact hK _
  have e1:((40:Int) < (at_.length:Int))=False:=eq_false (by omega)
  by_cases h20:20 < steps.length
  · have e2:((20:Int) < (steps.length:Int))=True:=eq_true (by omega)
    simp only [Cz8,A_,simprocAttr,ne_eq,(Uz9 _).1,e1,e2]
    exact hK _
  have e2:((20:Int) < (steps.length:Int))=False:=eq_false (by omega)
  simp only [Cz8,A_,simprocAttr,ne_eq,(Uz9 _).1,e1,e2]
  refine h1 100 _ _ _ (fun q=>absurd q (by omega)) fun _ _ t => ?_
  generalize H1 ++ [HObj.map [] 0,.cells (wlc 100 0 H1.length)]=H0 at t ⊢
  generalize H1.length + 1=h at t ⊢
  generalize H1.length=hm at t
  simp only [Cz8,A_,simprocAttr,ne_eq,(Uz9 _).1]
  refine loop_rule hC (α:=Nat×List HObj) (fun a=>at_.length - a.1) (fun a=>[.list .sh 1 (at_.map pI),.list .sh 1 (steps.map pI),uu,uu,uu,.ptr (.heap h) 0,.undef,.s (.int .i64 (a.1:Nat)),uu,uu,uu,uu,uu,uu,uu,uu,uu,uu,uu,uu,uu,uu,uu,uu,uu,uu,uu,uu,uu,uu,uu,uu,uu,uu,uu,uu,uu,uu,uu,uu,uu,uu,uu,uu,uu,uu,uu,uu,uu,uu,uu,uu,uu,uu,uu,uu,uu,uu,uu,uu,uu,uu,uu,uu,uu,uu,uu,uu,uu,uu,uu,uu,uu,uu,uu,uu,uu,uu,uu,uu,uu,uu,uu,uu,uu,uu,uu,uu,uu,uu,uu,uu,uu,uu,uu,uu,uu,uu,uu,uu,uu,uu,uu,uu,uu,uu,uu,uu,uu,uu,uu,uu,uu,uu,uu,uu,uu,uu,uu,uu,uu,uu,uu,uu,uu,uu,uu,uu,uu,uu,uu,uu,uu,uu,uu,uu,uu,uu,uu,uu,uu,uu,uu,uu,uu,uu,uu,uu,uu,uu,uu,uu,uu,uu,uu,uu,uu,uu,uu,uu,uu,uu,uu,uu,uu,uu,uu,uu,uu,uu,uu,uu,uu,uu,uu,uu,uu,uu,uu,uu,uu,uu,uu,uu,uu,uu,uu,uu,uu,uu,uu,uu,uu,uu,uu,uu,uu,uu]) (fun _=>S) (fun a=>a.2) (fun a=>a.1≤at_.length∧WhX a.2 h hm 100 0 (enW at_ a.1)∧∀j (hj:j < at_.length),j < a.1→1≤at_[j]) (0,H0) ⟨Nat.zero_le _,t,fun j _ q=>by omega⟩ (by simp [keep,zm]) (by rw [List.take_of_length_le (Nat.le_refl _)]) rfl (fun a _=>by simp [AV.under,AV.under.go]) ?_
  clear t
  rintro ⟨i,H2⟩ ⟨hi,t,hpos⟩ ih
  dsimp only at hi t hpos ih ⊢
  by_cases hil:i < at_.length
  · have hlt:((i:Int) < (at_.length:Int)):=by omega
    have hw:=wrap_succ (i:=i) (by omega)
    have x1:=ixl_pI hil
    have hgd:at_.getD i 0=at_[i]:=by simp [List.getD,hil]
    have hsn:=enW_succ at_ i
    rw [hgd] at hsn
    have hps:1≤at_[i]→∀j (hj:j < at_.length),j < i + 1→1≤at_[j]:=fun q j hj hji=>by
      rcases Nat.lt_or_ge j i with q2 | q2
      · exact hpos j hj q2
      · have:j=i:=by omega
        subst this; exact q
    generalize at_[i]=a at *
    by_cases ha:a < 1
    · simp only [Cz8,A_,simprocAttr,ne_eq,(Uz9 _).1,hlt,x1,ha]
      exact hK _
    by_cases hb:1099511627776 < a
    · simp only [Cz8,A_,simprocAttr,ne_eq,(Uz9 _).1,hlt,x1,ha,hb]
      exact hK _
    simp only [Cz8,A_,simprocAttr,ne_eq,(Uz9 _).1,hlt,x1,ha,hb]
    refine h2 h hm 100 0 (enW at_ i) i a _ _ _ t fun H3 _ t => ?_
    rw [enW_set (by omega) (by omega),←hsn] at t
    rw [enW_set (by omega) (by omega)]
    simp only [Cz8,A_,simprocAttr,ne_eq,(Uz9 _).1,hw]
    exact ih (i + 1,H3) _ _ _ (by dsimp only; omega) ⟨by dsimp only; omega,t,hps (by omega)⟩ (by simp [keep,zm]) (by rw [List.take_of_length_le (Nat.le_refl _)]) rfl
  have hi':i=at_.length:=by omega
  subst hi'
  clear ih hil hi
  have hpos:∀j (hj:j < at_.length),1≤at_[j]:=fun j hj=>hpos j hj hj
  have hlt:¬((at_.length:Int) < (at_.length:Int)):=by omega
  have hnd:=enW_nd at_ at_.length
  have hln:=enW_len at_ at_.length
  generalize hL:enW at_ at_.length=L at *
  have hp0:∀p∈L,1≤p.2:=by
    intro p hp
    rw [←hL] at hp
    obtain ⟨j,hj,rfl⟩:=enW_mem hp
    have:=hpos j hj
    simpa [List.getD,hj] using this
  simp only [Cz8,A_,simprocAttr,ne_eq,(Uz9 _).1,hlt]
  refine loop_rule hC (α:=Nat×Int×List HObj) (fun a=>steps.length - a.1) (fun a=>[.list .sh 1 (at_.map pI),.list .sh 1 (steps.map pI),uu,uu,uu,.ptr (.heap h) 0,uu,uu,.s (.int .i64 a.2.1),.s (.int .i64 ((L.filter fun p=>decide (p.2≤a.2.1)).length:Nat)),.s (.int .i64 (a.1:Nat)),uu,uu,uu,uu,uu,uu,uu,uu,uu,uu,uu,uu,uu,uu,uu,uu,uu,uu,uu,uu,uu,uu,uu,uu,uu,uu,uu,uu,uu,uu,uu,uu,uu,uu,uu,uu,uu,uu,uu,uu,uu,uu,uu,uu,uu,uu,uu,uu,uu,uu,uu,uu,uu,uu,uu,uu,uu,uu,uu,uu,uu,uu,uu,uu,uu,uu,uu,uu,uu,uu,uu,uu,uu,uu,uu,uu,uu,uu,uu,uu,uu,uu,uu,uu,uu,uu,uu,uu,uu,uu,uu,uu,uu,uu,uu,uu,uu,uu,uu,uu,uu,uu,uu,uu,uu,uu,uu,uu,uu,uu,uu,uu,uu,uu,uu,uu,uu,uu,uu,uu,uu,uu,uu,uu,uu,uu,uu,uu,uu,uu,uu,uu,uu,uu,uu,uu,uu,uu,uu,uu,uu,uu,uu,uu,uu,uu,uu,uu,uu,uu,uu,uu,uu,uu,uu,uu,uu,uu,uu,uu,uu,uu,uu,uu,uu,uu,uu,uu,uu,uu,uu,uu,uu,uu,uu,uu,uu,uu,uu,uu,uu,uu,uu,uu,uu,uu,uu]) (fun _=>S) (fun a=>a.2.2) (fun a=>a.1≤steps.length∧0≤a.2.1∧a.2.1≤a.1 * 1099511627776∧WhX a.2.2 h hm 100 a.2.1 (L.filter fun p=>decide (a.2.1 < p.2))) (0,0,H2) ⟨Nat.zero_le _,Int.le_refl _,by dsimp only; omega,?_⟩ ?_ (by rw [List.take_of_length_le (Nat.le_refl _)]) rfl (fun a _=>by simp [AV.under,AV.under.go]) ?_
  · dsimp only
    rw [List.filter_eq_self.2 fun p hp=>decide_eq_true (by have:=hp0 p hp; omega)]
    exact t
  · have:(L.filter fun p=>decide (p.2≤0))=[]:=List.filter_eq_nil_iff.2 fun p hp q=>by
      have:=hp0 p hp
      have:=of_decide_eq_true q
      omega
    simp [keep,zm,this]
  clear t
  rintro ⟨i,now,H3⟩ ⟨hi,hn0,hnb,t⟩ ih
  dsimp only at hi hn0 hnb t ih ⊢
  have hdl:(L.filter fun p=>decide (p.2≤now)).length≤40:=by have:=List.length_filter_le (fun p:Int×Int=>decide (p.2≤now)) L; omega
  by_cases hil:i < steps.length
  · have hlt:((i:Int) < (steps.length:Int)):=by omega
    have hw:=wrap_succ (i:=i) (by omega)
    have x1:=ixl_pI hil
    generalize steps[i]=st at *
    by_cases ha:st < 0
    · simp only [Cz8,A_,simprocAttr,ne_eq,(Uz9 _).1,hlt,x1,ha]
      exact hK _
    by_cases hb:1099511627776 < st
    · simp only [Cz8,A_,simprocAttr,ne_eq,(Uz9 _).1,hlt,x1,ha,hb]
      exact hK _
    have hwt:IntKind.i64.wrap (now + st)=now + st:=wrap_i64 (by omega) (by omega)
    simp only [Cz8,A_,simprocAttr,ne_eq,(Uz9 _).1,hlt,x1,ha,hb,hwt]
    refine h3 h hm 100 now (L.filter fun p=>decide (now < p.2)) (now + st) _ _ _ t (fun q=>absurd q (by omega)) fun _ H4 ids _ t hp hs => ?_
    rw [later_later (by omega)] at t
    have hidl:ids.length=((L.filter fun p=>decide (now < p.2)).filter fun p=>decide (p.2≤now + st)).length:=by rw [hp.length_eq,List.length_map]
    have hsum:=split_len2 L (show now≤now + st by omega)
    rw [←hidl] at hsum
    have hsl2:(L.filter fun p=>decide (p.2≤now + st)).length≤40:=by have:=List.length_filter_le (fun p:Int×Int=>decide (p.2≤now + st)) L; omega
    simp only [lstZ,Cz8,A_,simprocAttr,ne_eq,(Uz9 _).1]
    refine loop_ruleS hC (α:=Nat) (fun k=>ids.length - k) (fun k=>[.list .sh 1 (at_.map pI),.list .sh 1 (steps.map pI),uu,uu,uu,.ptr (.heap h) 0,uu,uu,.s (.int .i64 now),.s (.int .i64 ((L.filter fun p=>decide (p.2≤now)).length:Nat)),.s (.int .i64 (i:Nat)),.list .sh 1 (ids.map iA),.s (.int .i64 (k:Nat)),uu,uu,uu,uu,uu,uu,uu,uu,uu,uu,uu,uu,uu,uu,uu,uu,uu,uu,uu,uu,uu,uu,uu,uu,uu,uu,uu,uu,uu,uu,uu,uu,uu,uu,uu,uu,uu,uu,uu,uu,uu,uu,uu,uu,uu,uu,uu,uu,uu,uu,uu,uu,uu,uu,uu,uu,uu,uu,uu,uu,uu,uu,uu,uu,uu,uu,uu,uu,uu,uu,uu,uu,uu,uu,uu,uu,uu,uu,uu,uu,uu,uu,uu,uu,uu,uu,uu,uu,uu,uu,uu,uu,uu,uu,uu,uu,uu,uu,uu,uu,uu,uu,uu,uu,uu,uu,uu,uu,uu,uu,uu,uu,uu,uu,uu,uu,uu,uu,uu,uu,uu,uu,uu,uu,uu,uu,uu,uu,uu,uu,uu,uu,uu,uu,uu,uu,uu,uu,uu,uu,uu,uu,uu,uu,uu,uu,uu,uu,uu,uu,uu,uu,uu,uu,uu,uu,uu,uu,uu,uu,uu,uu,uu,uu,uu,uu,uu,uu,uu,uu,uu,uu,uu,uu,uu,uu,uu,uu,uu,uu,uu,uu,uu,uu,uu]) (fun k=>k≤ids.length) 0 (Nat.zero_le _) (by simp [keep,zm]) (by rw [List.take_of_length_le (Nat.le_refl _)]) (fun a _=>by simp [AV.under,AV.under.go]) ?_
    intro k hk ih3
    by_cases hkl:k < ids.length
    · have hltk:((k:Int) < (ids.length:Int)):=by omega
      have hwk:=wrap_succ (i:=k) (by omega)
      have xk:=ixl_iA hkl
      have hpt:=hp
      rw [←hL] at hpt
      obtain ⟨j,hj,hje,hj1,hj2,hjm⟩:=told_mem hpt hkl
      rw [hje] at xk
      have xa:=ixl_pI hj
      have n1:¬((j:Int) < 0):=by omega
      have n2:¬((at_.length:Int)≤(j:Int)):=by omega
      have n3:¬(at_[j]≤now):=by omega
      have n4:¬(now + st < at_[j]):=by omega
      have nextk:=ih3 (k + 1)
      by_cases hk0:k=0
      · have n5:¬((0:Int) < (k:Int)):=by omega
        simp only [Cz8,A_,simprocAttr,ne_eq,(Uz9 _).1,hltk,xk,xa,n1,n2,n3,n4,n5,hwt,hwk,x1]
        exact nextk _ _ _ (by omega) (by omega) (by simp [keep,zm]) (by rw [List.take_of_length_le (Nat.le_refl _)]) rfl
      · have n5:((0:Int) < (k:Int)):=by omega
        have hwp:IntKind.i64.wrap ((k:Int) - 1)=((k - 1:Nat):Int):=by rw [wrap_i64 (by omega) (by omega)]; omega
        have hkp:k - 1 < ids.length:=by omega
        have xk2:=ixl_iA hkp
        obtain ⟨j2,hj2',hje2,hj3,hj4,hjm2⟩:=told_mem hpt hkp
        rw [hje2] at xk2
        have xa2:=ixl_pI hj2'
        have hb:=List.pairwise_iff_getElem.1 hs (k - 1) k hkp hkl (by omega)
        rw [hje,hje2] at hb
        have hndf:((L.filter fun p=>decide (now < p.2)).map Prod.fst).Nodup:=hnd.sublist (List.Sublist.map _ List.filter_sublist)
        rw [hL] at hjm hjm2
        have d1:=due_mem hndf hjm
        have d2:=due_mem hndf hjm2
        dsimp only at d1 d2
        unfold befW at hb
        rw [d1,d2] at hb
        rcases hb with hb | ⟨hb1,hb2⟩
        · have m1:¬(at_[j] < at_[j2]):=by omega
          have m2:(at_[j2]=at_[j])=False:=eq_false (by omega)
          simp only [Cz8,A_,simprocAttr,ne_eq,(Uz9 _).1,hltk,xk,xa,n1,n2,n3,n4,n5,hwt,hwk,x1,hwp,xk2,xa2,m1,m2]
          exact nextk _ _ _ (by omega) (by omega) (by simp [keep,zm]) (by rw [List.take_of_length_le (Nat.le_refl _)]) rfl
        · have m1:¬(at_[j] < at_[j2]):=by omega
          have m2:(at_[j2]=at_[j])=True:=eq_true hb1
          have m3:¬((j:Int)≤(j2:Int)):=by omega
          simp only [Cz8,A_,simprocAttr,ne_eq,(Uz9 _).1,hltk,xk,xa,n1,n2,n3,n4,n5,hwt,hwk,x1,hwp,xk2,xa2,m1,m2,m3]
          exact nextk _ _ _ (by omega) (by omega) (by simp [keep,zm]) (by rw [List.take_of_length_le (Nat.le_refl _)]) rfl
    · have hk':k=ids.length:=by omega
      subst hk'
      have hltk:¬((ids.length:Int) < (ids.length:Int)):=by omega
      have hwd:IntKind.i64.wrap (((L.filter fun p=>decide (p.2≤now)).length:Int) + (ids.length:Int))=(((L.filter fun p=>decide (p.2≤now + st)).length:Nat):Int):=by rw [wrap_i64 (by omega) (by omega)]; omega
      simp only [Cz8,A_,simprocAttr,ne_eq,(Uz9 _).1,hltk,hwd,x1,hwt,hw]
      exact ih (i + 1,now + st,H4) _ _ _ (by dsimp only; omega) ⟨by dsimp only; omega,by dsimp only; omega,by dsimp only; omega,t⟩ (by simp [keep,zm]) (by rw [List.take_of_length_le (Nat.le_refl _)]) rfl
  · have hi':i=steps.length:=by omega
    subst hi'
    have hlt:¬((steps.length:Int) < (steps.length:Int)):=by omega
    simp only [Cz8,A_,simprocAttr,ne_eq,(Uz9 _).1,hlt]
    have hen:∀k,k≤at_.length→((enW at_ k).filter fun p=>decide (now < p.2)).length≤k:=fun k _=>by
      have:=List.length_filter_le (fun p:Int×Int=>decide (now < p.2)) (enW at_ k)
      rw [enW_len] at this
      exact this
    refine loop_ruleS hC (α:=Nat) (fun k=>at_.length - k) (fun k=>[.list .sh 1 (at_.map pI),uu,uu,uu,uu,.ptr (.heap h) 0,uu,uu,.s (.int .i64 now),.s (.int .i64 ((L.filter fun p=>decide (p.2≤now)).length:Nat)),uu,uu,uu,uu,.s (.int .i64 (((enW at_ k).filter fun p=>decide (now < p.2)).length:Nat)),.s (.int .i64 (k:Nat)),uu,uu,uu,uu,uu,uu,uu,uu,uu,uu,uu,uu,uu,uu,uu,uu,uu,uu,uu,uu,uu,uu,uu,uu,uu,uu,uu,uu,uu,uu,uu,uu,uu,uu,uu,uu,uu,uu,uu,uu,uu,uu,uu,uu,uu,uu,uu,uu,uu,uu,uu,uu,uu,uu,uu,uu,uu,uu,uu,uu,uu,uu,uu,uu,uu,uu,uu,uu,uu,uu,uu,uu,uu,uu,uu,uu,uu,uu,uu,uu,uu,uu,uu,uu,uu,uu,uu,uu,uu,uu,uu,uu,uu,uu,uu,uu,uu,uu,uu,uu,uu,uu,uu,uu,uu,uu,uu,uu,uu,uu,uu,uu,uu,uu,uu,uu,uu,uu,uu,uu,uu,uu,uu,uu,uu,uu,uu,uu,uu,uu,uu,uu,uu,uu,uu,uu,uu,uu,uu,uu,uu,uu,uu,uu,uu,uu,uu,uu,uu,uu,uu,uu,uu,uu,uu,uu,uu,uu,uu,uu,uu,uu,uu,uu,uu,uu,uu,uu,uu,uu,uu,uu,uu,uu,uu,uu,uu,uu,uu,uu,uu,uu]) (fun k=>k≤at_.length) 0 (Nat.zero_le _) (by simp [keep,zm,enW]) (by rw [List.take_of_length_le (Nat.le_refl _)]) (fun a _=>by simp [AV.under,AV.under.go]) ?_
    intro k hk ih3
    by_cases hkl:k < at_.length
    · have hltk:((k:Int) < (at_.length:Int)):=by omega
      have hwk:=wrap_succ (i:=k) (by omega)
      have xa:=ixl_pI hkl
      have hgd:at_.getD k 0=at_[k]:=by simp [List.getD,hkl]
      have hsn:=enW_succ at_ k
      rw [hgd] at hsn
      have hle:=hen k hk
      have ihk:=ih3 (k + 1)
      rw [hsn,List.filter_append,List.length_append] at ihk
      by_cases hnw:now < at_[k]
      · have q1:([((k:Int),at_[k])].filter fun p:Int×Int=>decide (now < p.2)).length=1:=by simp [hnw]
        rw [q1] at ihk
        have hwl:=wrap_succ (i:=((enW at_ k).filter fun p=>decide (now < p.2)).length) (by omega)
        simp only [Cz8,A_,simprocAttr,ne_eq,(Uz9 _).1,hltk,xa,hnw,hwk,hwl]
        exact ihk _ _ _ (by omega) (by omega) (by simp [keep,zm]) (by rw [List.take_of_length_le (Nat.le_refl _)]) rfl
      · have q1:([((k:Int),at_[k])].filter fun p:Int×Int=>decide (now < p.2)).length=0:=by simp [hnw]
        rw [q1,Nat.add_zero] at ihk
        simp only [Cz8,A_,simprocAttr,ne_eq,(Uz9 _).1,hltk,xa,hnw,hwk]
        exact ihk _ _ _ (by omega) (by omega) (by simp [keep,zm]) (by rw [List.take_of_length_le (Nat.le_refl _)]) rfl
    · have hk':k=at_.length:=by omega
      subst hk'
      have hltk:¬((at_.length:Int) < (at_.length:Int)):=by omega
      have hsp:=split_len L now
      rw [hL]
      have hww:IntKind.i64.wrap (((L.filter fun p=>decide (p.2≤now)).length:Int) + ((L.filter fun p=>decide (now < p.2)).length:Int))=(at_.length:Int):=by rw [wrap_i64 (by omega) (by omega)]; omega
      simp only [Cz8,A_,simprocAttr,ne_eq,(Uz9 _).1,hltk,hww]
      refine h4 h hm 100 now _ _ _ _ t ?_
      simp only [Cz8,A_,simprocAttr,ne_eq,(Uz9 _).1]
      exact hK _
end Go.AM
namespace Go.AM
open Go
section
variable {H:Type} {enc:TypeId×Value→H} {P:Program} {w:World} {sp:Nat→Bool} {held:Bool}
theorem trodAll_stays {W W' : World} (hl : laidOutB P = true) (hb : RowKit.Below W.heap.size W W') : ∀ {ts : List TypeId} {vs : List Value} {ds : List (DataW H)} {ps : List MemPlace}, (∀ t ∈ ts, P.readableRec t = true ∧ t < P.types.size) →
    DataW.TrodAll enc P W 0 (fun _=>true) true ts vs ds ps→DataW.TrodAll enc P W' 0 (fun b=>decide (b < W.heap.size)) true ts vs ds ps
  | [],[],[],_,_,h=>h
  | t :: ts,v :: vs,d :: ds,ps,ht,⟨p,q,h1,h2,e⟩=>by
    obtain ⟨n,hn⟩:=h1
    exact ⟨p,q,RowKit.Below.trod hl (ht t List.mem_cons_self).1 (ht t List.mem_cons_self).2 ⟨n,hn⟩ hb (DataW.trod_lt n _ _ _ hn),trodAll_stays hl hb (fun t h=>ht t (List.mem_cons_of_mem _ h)) h2,e⟩
  | [],[],_ :: _,_,_,h=>h.elim
  | [],_ :: _,_,_,_,h=>h.elim
  | _ :: _,[],_,_,_,h=>h.elim
  | _ :: _,_ :: _,[],_,_,h=>h.elim
end
end Go.AM
namespace Go.AM
open Go
section
variable {H:Type} {enc:TypeId×Value→H} {P:Program} {w:World} {sp:Nat→Bool} {held:Bool}
def contig (P:Program):List Field→Nat→Nat→Bool
  | [],o,tot=>o == tot
  | f :: l,o,tot=>f.offset == o && contig P l (o + P.cellsOf f.type) tot
def plainT (P:Program):Nat→TypeId→Bool
  | 0,_=>false
  | d + 1,t=>match P.underlying t with
    | some .bool | some (.int _) | some .string=>true
    | some (.slice e)=>decide (0 < P.cellsOf e) && (isAgg P e || P.cellsOf e == 1) && plainT P d e
    | some (.struct fs)=>contig P fs.toList 0 (P.cellsOf t) && fs.toList.all fun f=>plainT P d f.type
    | some (.array m e)=>P.cellsOf t == m * P.cellsOf e && plainT P d e
    | _=>false
def shp (P:Program):Nat→TypeId→List AV→Prop
  | 0,_,_=>False
  | d + 1,t,as=>match P.underlying t with
    | some .bool=>∃b,as=[.s (.bool b)]
    | some (.int k)=>∃i,as=[.s (.int k i)]∧(Lit.int k i).wf=true
    | some .string=>∃l,as=[.s (.str l)]∧l.length≤maxLen
    | some (.slice e)=>∃es:List AV,as=[.list .sh (P.cellsOf e) es]∧es.length≤maxLen∧∀x∈es,shp P d e x.cells∧(isAgg P e=true→x = .agg x.cells)∧(isAgg P e=false→x.cells=[x])
    | some (.struct fs)=>fs.toList.foldr (fun f (Q:List AV→Prop) as=>∃a b,as=a ++ b∧shp P d f.type a∧Q b) (fun as=>as=[]) as
    | some (.array m e)=>∃ps:List (List AV),ps.length=m∧as=ps.flatten∧∀p∈ps,shp P d e p
    | _=>False
structure Tells (w:World) (as:List AV) (cs:List Value):Prop where
  vl:VL G.none w as cs
  cell:∀c∈as,c.isCell=true
  low:AV.under.go 0 as=true
theorem Tells.nil:Tells w [] []:=⟨.nil,(fun _ h=>by cases h),rfl⟩
theorem Tells.app {a b:List AV} {c d:List Value} (h:Tells w a c) (h':Tells w b d):Tells w (a ++ b) (c ++ d) :=
  ⟨h.vl.app h'.vl,fun x hx=>(List.mem_append.1 hx).elim (h.cell x) (h'.cell x),by rw [under_app',h.low,h'.low]; rfl⟩
theorem Tells.flat:∀{ps:List (List AV)} {qs:List (List Value)},ps.length=qs.length→(∀(i:Nat) (p:List AV) (q:List Value),ps[i]? = some p→qs[i]? = some q→Tells w p q)→Tells w ps.flatten qs.flatten
  | [],[],_,_ => .nil
  | [],_ :: _,h,_=>by simp at h
  | _ :: _,[],h,_=>by simp at h
  | p :: ps,q :: qs,h,hall=>by
    rw [List.flatten_cons,List.flatten_cons]
    exact (hall 0 p q rfl rfl).app (Tells.flat (by simpa using h) fun i a b ha hb=>hall (i + 1) a b (by simpa using ha) (by simpa using hb))
theorem Tells.sc (x:Sc):Tells w [.s x] [x.toV]:=⟨.sc x .nil,fun c hc=>by rw [List.mem_singleton.1 hc]; rfl,rfl⟩
theorem lies_flat {b c:Nat}:∀(qs:List (List Value)) (off:Nat),(∀i q,qs[i]? = some q→w.cells? 0 ⟨b,off + i * c,none⟩ c=some q)→∀j v,qs.flatten[j]? = some v→w.cell? ⟨b,off + j,none⟩=some v
  | [],off,_,j,v,h=>by simp at h
  | q :: qs,off,hall,j,v,h=>by
    have hk:=hall 0 q rfl
    rw [Nat.zero_mul,Nat.add_zero] at hk
    have hs:=World.cells?_some hk
    rw [List.flatten_cons] at h
    by_cases hj:j < c
    · rw [List.getElem?_append_left (by omega)] at h
      have:=hs.2.2 j hj
      rw [Addr.add_lit] at this
      rw [this]; exact h
    · rw [List.getElem?_append_right (by omega),hs.2.1] at h
      have:=lies_flat qs (off + c) (fun i q hi=>by
        have:=hall (i + 1) q (by simpa using hi)
        rw [show off + c + i * c=off + (i + 1) * c by rw [Nat.add_mul]; omega]
        exact this) (j - c) v h
      rwa [show off + c + (j - c)=off + j by omega] at this
theorem choose_list {β:Type} {n:Nat} {p:Nat→β→Prop} (h:∀i,i < n→∃b,p i b):∃l:List β,l.length=n∧∀i b,l[i]? = some b→p i b:=by
  induction n with
  | zero=>exact ⟨[],rfl,fun i b h=>by simp at h⟩
  | succ n ih =>
    obtain ⟨l,hl,hall⟩:=ih fun i hi=>h i (by omega)
    obtain ⟨b,hb⟩:=h n (by omega)
    refine ⟨l ++ [b],by simp [hl],fun i c hc => ?_⟩
    by_cases hi:i < l.length
    · rw [List.getElem?_append_left hi] at hc; exact hall i c hc
    · rw [List.getElem?_append_right (by omega)] at hc
      have:i=n:=by
        have:=(List.getElem?_eq_some_iff.1 hc).1
        simp at this; omega
      subst this
      rw [hl,Nat.sub_self] at hc
      injection hc with hc; subst hc; exact hb
def elemA (ag:Bool) (as:List AV):AV:=match ag with
  | true => .agg as
  | false=>as.getD 0 .undef
theorem elemA_cells {w:World} {ag:Bool} {as:List AV} {cs:List Value} (h:Tells w as cs) (hl:ag=true∨as.length=1):(elemA ag as).cells=as:=by
  cases ag with
  | true=>rfl
  | false =>
    obtain ⟨a,rfl⟩:=List.length_eq_one_iff.1 (hl.resolve_left (by simp))
    have hc:=h.cell a (by simp)
    show a.cells=[a]
    cases a <;> simp [AV.isCell] at hc <;> rfl
theorem elemA_low {w:World} {ag:Bool} {as:List AV} {cs:List Value} (h:Tells w as cs) (hl:ag=true∨as.length=1):AV.under 0 (elemA ag as)=true:=by
  cases ag with
  | true=>exact h.low
  | false =>
    obtain ⟨a,rfl⟩:=List.length_eq_one_iff.1 (hl.resolve_left (by simp))
    have:=h.low
    simpa [elemA,AV.under.go] using this
theorem trod_struct_shp {d m tot : Nat} {cs : List Value} (ih : ∀ t, plainT P d t = true → ∀ N cs x, DataW.trod enc P w 0 sp held N t cs = some x → ∃ as, shp P d t as ∧ Tells w as cs) (htot : cs.length = tot) :
    ∀(l:List Field) (o:Nat),contig P l o tot=true→(l.all fun f=>plainT P d f.type)=true→(∀f∈l,∃x,DataW.trod enc P w 0 sp held m f.type ((cs.drop f.offset).take (P.cellsOf f.type))=some x) →
    ∃as,l.foldr (fun f (Q:List AV→Prop) as=>∃a b,as=a ++ b∧shp P d f.type a∧Q b) (fun as=>as=[]) as∧Tells w as (cs.drop o)
  | [],o,hc,_,_=>by
    have:o=tot:=by simpa [contig] using hc
    subst this
    rw [List.drop_of_length_le (by omega)]
    exact ⟨[],rfl,.nil⟩
  | f :: l,o,hc,hp,hall=>by
    simp only [contig,Bool.and_eq_true,beq_iff_eq] at hc
    simp only [List.all_cons,Bool.and_eq_true] at hp
    obtain ⟨x,hx⟩:=hall f List.mem_cons_self
    obtain ⟨a,ha,hta⟩:=ih _ hp.1 _ _ _ hx
    obtain ⟨b,hb,htb⟩:=trod_struct_shp ih htot l _ hc.2 hp.2 fun g hg=>hall g (List.mem_cons_of_mem _ hg)
    refine ⟨a ++ b,⟨a,b,rfl,ha,hb⟩,?_⟩
    rw [hc.1] at hta
    have:cs.drop o=(cs.drop o).take (P.cellsOf f.type) ++ cs.drop (o + P.cellsOf f.type):=by
      rw [←List.drop_drop,List.take_append_drop]
    rw [this]
    exact hta.app htb
theorem flat_parts {c:Nat}:∀(m:Nat) (cs:List Value),cs.length=m * c→((List.range m).map fun i=>(cs.drop (i * c)).take c).flatten=cs
  | 0,cs,h=>by simp at h; subst h; rfl
  | m + 1,cs,h=>by
    rw [List.range_succ_eq_map,List.map_cons,List.map_map,List.flatten_cons,Nat.zero_mul,List.drop_zero]
    have:=flat_parts (c:=c) m (cs.drop c) (by rw [List.length_drop,h,Nat.add_mul]; omega)
    have e:((fun i=>(cs.drop (i * c)).take c) ∘ Nat.succ)=fun i=>((cs.drop c).drop (i * c)).take c:=by
      funext i
      simp only [Function.comp,List.drop_drop,Nat.succ_eq_add_one,Nat.add_mul,Nat.one_mul]
      rw [Nat.add_comm c]
    rw [e,this,List.take_append_drop]
theorem trod_shp:∀(d:Nat) (t:TypeId),plainT P d t=true→∀(N:Nat) (cs:List Value) (x:DataW H×List MemPlace),DataW.trod enc P w 0 sp held N t cs=some x→∃as,shp P d t as∧Tells w as cs
  | 0,t,h,_,_,_,_=>by simp [plainT] at h
  | d + 1,t,h,N,cs,x,hx=>by
    have ih:=trod_shp d
    unfold plainT at h
    unfold shp
    cases hu:P.underlying t with
    | none=>rw [hu] at h; cases h
    | some D =>
      rw [hu] at h
      cases D with
      | bool =>
        obtain ⟨b,rfl,_⟩:=DataW.trod_bool hu hx
        exact ⟨_,⟨b,rfl⟩,.sc (.bool b)⟩
      | int k =>
        obtain ⟨n,rfl,_,hw⟩:=DataW.trod_int hu hx
        exact ⟨_,⟨n,rfl,hw⟩,.sc (.int k n)⟩
      | string =>
        obtain ⟨s,rfl,_,hl⟩:=DataW.trod_string hu hx
        refine ⟨_,⟨s.data.toList,rfl,by simpa using hl⟩,?_⟩
        have:=Tells.sc (w:=w) (.str s.data.toList)
        simpa [Sc.toV] using this
      | slice e =>
        simp only [Bool.and_eq_true,decide_eq_true_eq,Bool.or_eq_true,beq_iff_eq] at h
        obtain ⟨⟨hpos,hag⟩,hpe⟩:=h
        rcases DataW.trod_slice hu hx with ⟨rfl,_⟩ | ⟨a,len,cap,elems,rest,n,_,rfl,_,_,hle,hcap,hlen,hel,_,_⟩
        · exact ⟨_,⟨[],rfl,Nat.zero_le _,fun _ h=>by cases h⟩,⟨.lnil hpos .nil,fun c hc=>by rw [List.mem_singleton.1 hc]; rfl,rfl⟩⟩
        · have each:∀i,i < len→∃z:List Value×List AV,w.cells? 0 (a.add (i * P.cellsOf e)) (P.cellsOf e)=some z.1∧shp P d e z.2∧Tells w z.2 z.1:=fun i hi=>by
            have h1:=hel i hi
            rw [List.getElem?_eq_getElem (by omega)] at h1
            obtain ⟨q,hq,hq2⟩:=Option.bind_eq_some_iff.1 h1
            obtain ⟨as,h2,h3⟩:=ih e hpe _ _ _ hq2
            exact ⟨(q,as),hq,h2,h3⟩
          obtain ⟨l,hl,hall⟩:=choose_list each
          have hin:∀z∈l,(∃i,w.cells? 0 (a.add (i * P.cellsOf e)) (P.cellsOf e)=some z.1)∧shp P d e z.2∧Tells w z.2 z.1:=fun z hz=>by
            obtain ⟨i,hi⟩:=List.getElem?_of_mem hz
            exact ⟨⟨i,(hall i z hi).1⟩,(hall i z hi).2⟩
          have hone:∀z∈l,z.2.length=P.cellsOf e:=fun z hz=>by
            obtain ⟨⟨i,h1⟩,_,h2⟩:=hin z hz
            rw [←h2.vl.length]; exact (World.cells?_some h1).2.1
          have hag':∀z∈l,isAgg P e=true∨z.2.length=1:=fun z hz=>hag.imp id fun h=>by rw [hone z hz,h]
          let es:List AV:=l.map fun z=>elemA (isAgg P e) z.2
          have hcells:es.flatMap AV.cells=(l.map (·.2)).flatten:=by
            have:∀(l':List (List Value×List AV)),(∀z∈l',z∈l)→(l'.map fun z=>elemA (isAgg P e) z.2).flatMap AV.cells=(l'.map (·.2)).flatten:=by
              intro l'
              induction l' with
              | nil=>intro _; rfl
              | cons z l' ihl =>
                intro hs
                rw [List.map_cons,List.flatMap_cons,List.map_cons,List.flatten_cons,ihl fun y hy=>hs y (List.mem_cons_of_mem _ hy)]
                have hz:=hs z List.mem_cons_self
                rw [elemA_cells (hin z hz).2.2 (hag' z hz)]
            exact this l fun _ h=>h
          have hspot:es=[]∨a.spot=none:=by
            by_cases h0:len=0
            · left; apply List.length_eq_zero_iff.1; simp [es,hl,h0]
            · right
              obtain ⟨z,hz,_⟩:=each 0 (by omega)
              have h1:=(World.cells?_some hz).2.2 0 hpos
              have h2:(a.add (0 * P.cellsOf e)).add 0=a:=by simp [Addr.add]
              rw [h2,List.getElem?_eq_getElem (by rw [(World.cells?_some hz).2.1]; exact hpos)] at h1
              unfold World.cell? at h1
              split at h1
              · split at h1
                · cases h1
                · rename_i h3; simpa using h3
              · cases h1
          have htell:Tells w (l.map (·.2)).flatten (l.map (·.1)).flatten:=Tells.flat (by simp) fun i p q hp hq=>by
            rw [List.getElem?_map] at hp hq
            cases hz:l[i]? with
            | none=>rw [hz] at hp; cases hp
            | some z =>
              rw [hz] at hp hq
              injection hp with hp; injection hq with hq; subst hp; subst hq
              exact (hall i z hz).2.2
          refine ⟨_,⟨es,rfl,by simp [es,hl]; omega,fun y hy => ?_⟩,⟨?_,fun c hc=>by rw [List.mem_singleton.1 hc]; rfl,rfl⟩⟩
          · obtain ⟨z,hz,rfl⟩:=List.mem_map.1 hy
            rw [elemA_cells (hin z hz).2.2 (hag' z hz)]
            refine ⟨(hin z hz).2.1,fun h=>by rw [h]; rfl,fun h => ?_⟩
            obtain ⟨a,ha⟩:=List.length_eq_one_iff.1 ((hag' z hz).resolve_left (by rw [h]; simp))
            rw [ha,h]; rfl
          · refine .list (xs:=(l.map (·.1)).flatten) (.inl rfl) (by simp [es,hl]) hle hpos hspot (fun y hy => ?_) ?_ (by rw [hcells]; exact htell.vl) (fun i v hv=>⟨?_,fun h=>(show False from h)⟩) .nil
            · obtain ⟨z,hz,rfl⟩:=List.mem_map.1 hy
              rw [elemA_cells (hin z hz).2.2 (hag' z hz)]
              exact ⟨hone z hz,(hin z hz).2.2.cell⟩
            · refine under_mem.2 fun y hy => ?_
              obtain ⟨z,hz,rfl⟩:=List.mem_map.1 hy
              exact elemA_low (hin z hz).2.2 (hag' z hz)
            · rcases hspot with h0 | h0
              · have:l=[]:=by simpa [es] using h0
                rw [this] at hv; simp at hv
              · obtain ⟨ab,ao,as⟩:=a
                dsimp only at h0; subst h0
                refine lies_flat (c:=P.cellsOf e) _ ao (fun j q hq => ?_) i v hv
                rw [List.getElem?_map] at hq
                cases hz:l[j]? with
                | none=>rw [hz] at hq; cases hq
                | some z =>
                  rw [hz] at hq
                  injection hq with hq; subst hq
                  have:=(hall j z hz).1
                  rwa [Addr.add_lit] at this
      | struct fs =>
        simp only [Bool.and_eq_true] at h
        obtain ⟨xs,n,_,_,hl,hxl,hf⟩:=DataW.trod_struct hu hx
        obtain ⟨as,h1,h2⟩:=trod_struct_shp (m:=n) ih hl fs.toList 0 h.1 h.2 fun f hm=>by
          obtain ⟨i,hi⟩:=List.getElem?_of_mem hm
          have hi':fs[i]? = some f:=by simpa using hi
          have:=hf i f hi'
          have hlt:=(Array.getElem?_eq_some_iff.1 hi').1
          rw [List.getElem?_eq_getElem (by omega)] at this
          exact ⟨_,this⟩
        exact ⟨as,h1,by simpa using h2⟩
      | array m e =>
        simp only [Bool.and_eq_true,beq_iff_eq] at h
        obtain ⟨xs,n,_,_,hl,hxl,hf⟩:=DataW.trod_array hu hx
        obtain ⟨ps,hpl,hall⟩:=choose_list (n:=m) (p:=fun i as=>shp P d e as∧Tells w as ((cs.drop (i * P.cellsOf e)).take (P.cellsOf e))) fun i hi=>by
          have:=hf i hi
          rw [List.getElem?_eq_getElem (by omega)] at this
          exact ih e h.2 _ _ _ this
        refine ⟨ps.flatten,⟨ps,hpl,rfl,fun p hp => ?_⟩,?_⟩
        · obtain ⟨i,hi⟩:=List.getElem?_of_mem hp
          exact (hall i p hi).1
        · rw [←flat_parts (c:=P.cellsOf e) m cs (by rw [hl,h.1])]
          refine Tells.flat (by simp [hpl]) fun i p q hp hq => ?_
          have hlt:i < m:=by have:=(List.getElem?_eq_some_iff.1 hp).1; omega
          have:q=(cs.drop (i * P.cellsOf e)).take (P.cellsOf e):=by
            rw [List.getElem?_map,List.getElem?_range hlt] at hq
            injection hq with hq; exact hq.symm
          subst this
          exact (hall i p hp).2
      | _=>cases h
def argA (ag:Bool) (as:List AV):AV:=elemA ag as
theorem trod_arg {d : Nat} {t : TypeId} {v : Value} {D : DataW H} {ps : List MemPlace} (hp : plainT P d t = true) (hok : Value.okWide P w .any 0 t v) (h : DataW.Trod enc P w 0 sp held t v D ps) :
    ∃as,shp P d t as∧V G.none w (argA (isAgg P t) as) v:=by
  obtain ⟨n,hn⟩:=h
  obtain ⟨as,h1,h2⟩:=trod_shp d t hp n _ _ hn
  refine ⟨as,h1,?_⟩
  cases hu:P.underlying t with
  | none =>
    cases d with
    | zero=>simp [plainT] at hp
    | succ d=>rw [plainT,hu] at hp; cases hp
  | some D =>
    have scalar:isAgg P t=false→(∀xs,v≠.agg xs)→V G.none w (argA (isAgg P t) as) v:=fun hf hv=>by
      rw [hf]
      have e:v.cells.toList=[v]:=by
        cases v <;> first | rfl | exact (hv _ rfl).elim
      rw [e] at h2
      obtain ⟨a,as',rfl,h3,h4⟩:∃a as',as=a :: as'∧V G.none w a v∧VL G.none w as' []:=by
        cases as with
        | nil=>have:=h2.vl.length; simp at this
        | cons a as' =>
          obtain ⟨v',vs',hh,h3,h4⟩:=h2.vl.cons_left
          injection hh with hh1 hh2; subst hh1; subst hh2
          exact ⟨a,as',rfl,h3,h4⟩
      exact h3
    cases D with
    | struct fs =>
      simp only [Value.okWide,hu] at hok
      obtain ⟨cs,rfl,_,_⟩:=hok
      rw [show isAgg P t=true by simp [isAgg,hu]]
      exact .agg h2.cell (by simpa [Value.cells] using h2.vl) .nil
    | array m e =>
      simp only [Value.okWide,hu] at hok
      obtain ⟨cs,rfl,_,_⟩:=hok
      rw [show isAgg P t=true by simp [isAgg,hu]]
      exact .agg h2.cell (by simpa [Value.cells] using h2.vl) .nil
    | _ =>
      refine scalar (by simp [isAgg,hu]) fun xs hv => ?_
      subst hv
      simp [Value.okWide,Cell.okWide,Cell.ok,hu] at hok
end
end Go.AM
namespace Go.AM
open Go
section
variable {P:Program}
def parts (P:Program) (d:Nat):List TypeId→List AV→Prop
  | [],as=>as=[]
  | u :: ts,as=>∃a b,as=a ++ b∧shp P d u a∧parts P d ts b
theorem shp_int {d:Nat} {t:TypeId} {k:IntKind} {as:List AV} (ht:P.underlying t=some (.int k)) (h:shp P (d + 1) t as):∃i,as=[.s (.int k i)]∧(Lit.int k i).wf=true:=by
  unfold shp at h; rw [ht] at h; exact h
end
end Go.AM
namespace Go.AM
open Go
section
variable {P:Program}
end
end Go.AM
namespace Go.AM
open Go
variable {P:Program}
theorem of_eachQ {α:Type} {f:α→AV} {Q:α→Prop}:∀(es:List AV),(∀x∈es,∃a,x=f a∧Q a)→∃l:List α,es=l.map f∧∀a∈l,Q a
  | [],_=>⟨[],rfl,fun a h=>by cases h⟩
  | x :: es,h=>by
    obtain ⟨a,rfl,hq⟩:=h x (List.mem_cons_self ..)
    obtain ⟨l,rfl,hl⟩:=of_eachQ es fun y hy=>h y (List.mem_cons_of_mem _ hy)
    exact ⟨a :: l,rfl,fun b hb=>by rcases List.mem_cons.1 hb with rfl | hb; exact hq; exact hl b hb⟩
theorem shp_sliceQ {d : Nat} {t e : TypeId} {c : Nat} {as : List AV} {α : Type} (f : α → AV) (Q : α → Prop) (ht : P.underlying t = some (.slice e)) (hc : P.cellsOf e = c) (he : ∀ x : AV, shp P d e x.cells → (isAgg P e = true → x = .agg x.cells) → (isAgg P e = false → x.cells = [x]) → ∃ a, x = f a ∧ Q a) (h : shp P (d + 1) t as) :
    ∃l:List α,as=[.list .sh c (l.map f)]∧l.length≤9223372036854775807∧∀a∈l,Q a:=by
  subst hc
  unfold shp at h; rw [ht] at h
  obtain ⟨es,rfl,hl,hall⟩:=h
  obtain ⟨l,rfl,hq⟩:=of_eachQ (f:=f) es fun x hx=>he x (hall x hx).1 (hall x hx).2.1 (hall x hx).2.2
  refine ⟨l,rfl,?_,hq⟩
  rw [List.length_map] at hl
  unfold maxLen at hl; omega
theorem shp_i64 {d:Nat} {t:TypeId} {as:List AV} (ht:P.underlying t=some (.int .i64)) (h:shp P (d + 1) t as):∃i:Int,as=[.s (.int .i64 i)]∧-9223372036854775808≤i∧i≤9223372036854775807:=by
  obtain ⟨i,rfl,hw⟩:=shp_int ht h
  refine ⟨i,rfl,?_⟩
  unfold Lit.wf at hw
  rw [Bool.and_eq_true] at hw
  have h1:=of_decide_eq_true hw.1
  have h2:=of_decide_eq_true hw.2
  simp [IntKind.min,IntKind.max,IntKind.signed,IntKind.bits] at h1 h2
  omega
end Go.AM
