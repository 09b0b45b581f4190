import Derived.Test.YtmboeclchocpcaaM12
import Derived.Test.YtmboeclchocpcaaM10
import Derived.Test.YtmboeclchocpcaaM7
import Derived.OpenShut
import Derived.Carry
import Derived.ChangeOld
set_option linter.unusedSimpArgs false
set_option linter.unusedVariables false
namespace Go.AM
open Go
open AV renaming undef → uu
set_option maxRecDepth 20000
def ValsS (C:CallW) (f g:FuncId):Prop:=∀(hm:Nat) S H (K:AV→St→Prop),K (.fn (.func g) [] [.ptr (.heap H.length) 0]) ⟨S,H ++ [.cells [.map hm]]⟩→C (.fn f) [.map hm] ⟨S,H⟩ K
theorem maps_Values_spec {C:CallW} (P:Program) {c:Nat→FuncId}:∀(hm:Nat) S H (K:AV→St→Prop),K (.fn (.func (c 0)) [] [.ptr (.heap H.length) 0]) ⟨S,H ++ [.cells [.map hm]]⟩→runL C P (Cz2u c) [.map hm] ⟨S,H⟩ K:=by
  intro hm S H K hK
  simp only [Cz2u,A_,simprocAttr,ne_eq]
  exact hK
def ValsItS (C:CallW) (g:FuncId):Prop:=∀(G:List Int→List HObj) (N h bx hm c:Nat) (es:List Entry) (x:Entry→Int) (S:List (List AV)) (K:AV→St→Prop),(∀acc,(G acc).length=N)→(∀acc,(G acc)[bx]? = some (.cells [.map hm]))→(∀acc,(G acc)[hm]? = some (.map es c))→(es.map (·.born)).Nodup→(∀e∈es,e.born < c)→(∀e∈es,e.val=iA (x e)) →
  (∀acc v it S' (K':AV→St→Prop),acc.length < es.length→K' (.bool true) ⟨S',G (acc ++ [v]) ++ [it]⟩→C (.yield h) [.s (.int .i64 v)] ⟨S',G acc ++ [it]⟩ K')→(∀acc it,acc.Perm (es.map x)→K (.tup []) ⟨S,G acc ++ [it]⟩)→C (.fn g) [.yield h,.ptr (.heap bx) 0] ⟨S,G []⟩ K
set_option maxHeartbeats 4000000 in
theorem maps_Values1_spec {C:CallW} (hC:LeC C C) (P:Program):∀(G:List Int→List HObj) (N h bx hm c:Nat) (es:List Entry) (x:Entry→Int) (S:List (List AV)) (K:AV→St→Prop),(∀acc,(G acc).length=N)→(∀acc,(G acc)[bx]? = some (.cells [.map hm]))→(∀acc,(G acc)[hm]? = some (.map es c))→(es.map (·.born)).Nodup→(∀e∈es,e.born < c)→(∀e∈es,e.val=iA (x e)) →
  (∀acc v it S' (K':AV→St→Prop),acc.length < es.length→K' (.bool true) ⟨S',G (acc ++ [v]) ++ [it]⟩→C (.yield h) [.s (.int .i64 v)] ⟨S',G acc ++ [it]⟩ K')→(∀acc it,acc.Perm (es.map x)→K (.tup []) ⟨S,G acc ++ [it]⟩)→runL C P Cz14 [.yield h,.ptr (.heap bx) 0] ⟨S,G []⟩ K:=by
  intro G N h bx hm c es x S K hN hbx hmp hnd hlt hkey hy hK
  have b0:=hbx []
  simp only [Cz14,A_,simprocAttr,ne_eq,Uz1a.1,b0]
  rw [opS_rng rfl (hmp [])]
  simp only [Cz14,A_,simprocAttr,ne_eq,Uz1a.1,hN]
  refine loop_rule hC (α:=List Entry) (fun vs=>es.length - vs.length) (fun vs=>[.yield h,uu,uu,uu,uu,uu,.ptr (.heap N) 0,uu,uu,uu,uu,uu,uu,uu,uu]) (fun _=>S) (fun vs=>G (vs.map x) ++ [.iter ⟨some hm,c,vs.map (·.born),c⟩]) (fun vs=>(vs.map (·.born)).Nodup∧∀e∈vs,e∈es) [] ⟨.nil,fun e h=>by cases h⟩ (by simp [keep,zm]) (by rw [List.take_of_length_le (Nat.le_refl _)]) rfl (fun a _=>by simp [AV.under,AV.under.go]) ?_
  rintro vs ⟨hvn,hvs⟩ ih
  have hit:(G (vs.map x) ++ [.iter ⟨some hm,c,vs.map (·.born),c⟩])[N]? = some (.iter ⟨some hm,c,vs.map (·.born),c⟩):=by rw [←hN (vs.map x)]; simp
  have hmm:∀o,(G (vs.map x) ++ [o])[hm]? = some (.map es c):=fun o=>happ (hmp _)
  simp only [Cz14,A_,simprocAttr,ne_eq,Uz1a.1]
  rw [opS_nxt rfl hit rfl (hmm _)]
  refine ⟨?_,fun hall => ?_,fun e he hns => ?_⟩
  · cases vs with
    | nil=>exact .inl rfl
    | cons v vs=>exact .inr (.inr ⟨v,hvs v List.mem_cons_self,hlt v (hvs v List.mem_cons_self)⟩)
  · have hp:vs.Perm es:=by
      refine (List.perm_ext_iff_of_nodup ?_ ?_).2 fun e=>⟨hvs e,fun he => ?_⟩
      · exact List.Pairwise.of_map (·.born) (fun a b h e=>h (by rw [e])) hvn
      · exact List.Pairwise.of_map (·.born) (fun a b h e=>h (by rw [e])) hnd
      · rcases hall e he with h1 | h1
        · rw [List.mem_map] at h1
          obtain ⟨v,hv,hb⟩:=h1
          have q1:=born_find hnd (hvs v hv)
          have q2:=born_find hnd he
          rw [hb,q2] at q1
          rw [Option.some.inj q1]; exact hv
        · have:=hlt e he
          exact absurd h1 (by dsimp only; omega)
    simp only [Cz14,A_,simprocAttr,ne_eq,Uz1a.1]
    exact hK _ _ (hp.map x)
  · have hk:=hkey e he
    have hset:∀o o':HObj,(G (vs.map x) ++ [o]).set N o'=G (vs.map x) ++ [o']:=fun o o'=>by rw [←hN (vs.map x)]; simp
    have hit2:(G (vs.map x) ++ [.iter ⟨some hm,c,vs.map (·.born) ++ [e.born],c⟩])[N]? = some (.iter ⟨some hm,c,vs.map (·.born) ++ [e.born],c⟩):=by rw [←hN (vs.map x)]; simp
    dsimp only
    rw [hset]
    have hll:vs.length < es.length:=by
      have hb:((vs ++ [e]).map (·.born)).Nodup:=by
        rw [List.map_append,List.nodup_append]
        exact ⟨hvn,by simp,fun a ha b hb=>by
          have:b=e.born:=by simpa using hb
          subst this
          exact fun e2=>hns (e2▸ha)⟩
      have hnd2:(vs ++ [e]).Nodup:=List.Pairwise.of_map (·.born) (fun a b h e=>h (by rw [e])) hb
      have h1:(vs ++ [e]).length≤es.length:=hnd2.length_le_of_subset fun z hz=>by
        rcases List.mem_append.1 hz with hz | hz
        · exact hvs z hz
        · have:z=e:=by simpa using hz
          rw [this]; exact he
      simp at h1; omega
    simp only [Cz14,A_,simprocAttr,ne_eq,Uz1a.1]
    rw [opS_ent rfl hit2 rfl (hmm _) (b:=e.born) (by simp) rfl (born_find hnd he),hk]
    simp only [iA,Cz14,A_,simprocAttr,ne_eq,Uz1a.1]
    refine hy _ (x e) _ _ _ (by simpa using hll) ?_
    simp only [Cz14,A_,simprocAttr,ne_eq,Uz1a.1]
    refine ih (vs ++ [e]) _ _ _ (by simp; omega) ⟨?_,fun z hz => ?_⟩ (by simp [keep,zm]) (by rw [List.take_of_length_le (Nat.le_refl _)]) (by simp)
    · rw [List.map_append,List.nodup_append]
      exact ⟨hvn,by simp,fun a ha b hb=>by
        have:b=e.born:=by simpa using hb
        subst this
        exact fun e2=>hns (e2▸ha)⟩
    · rcases List.mem_append.1 hz with hz | hz
      · exact hvs z hz
      · have:z=e:=by simpa using hz
        rw [this]; exact he
structure MapV (H:List HObj) (bx hm c:Nat) (es:List Entry) (x:Entry→Int):Prop where
  box:H[bx]? = some (.cells [.map hm])
  map:H[hm]? = some (.map es c)
  nd:(es.map (·.born)).Nodup
  lt:∀e∈es,e.born < c
  val:∀e∈es,e.val=iA (x e)
  len:es.length≤1000000
def AppSeqVS (C:CallW) (f g:FuncId):Prop:=∀(bx hm c:Nat) (es:List Entry) (x:Entry→Int) S H (K:AV→St→Prop),MapV H bx hm c es x→(∀acc G,acc.Perm (es.map x)→K (slZ acc) ⟨S,H ++ G⟩)→C (.fn f) [.s .nilS,.fn (.func g) [] [.ptr (.heap bx) 0]] ⟨S,H⟩ K
set_option maxHeartbeats 4000000 in
theorem AppendSeq_specV {C:CallW} (hC:LeC C C) (P:Program) {c:Nat→FuncId} {as1 bd1:Code} {g:FuncId} (h1:ValsItS C g) (hB:hasBody P g=true) (hR:RoundOK C P (c 0) as1 bd1 (Cz1p).code (Cz1q).code):∀(bx hm cc:Nat) (es:List Entry) (x:Entry→Int) S H (K:AV→St→Prop),MapV H bx hm cc es x→(∀acc G,acc.Perm (es.map x)→K (slZ acc) ⟨S,H ++ G⟩)→runL C P (Cz22 c as1 bd1) [.s .nilS,.fn (.func g) [] [.ptr (.heap bx) 0]] ⟨S,H⟩ K:=by
  intro bx hm cc es x S H K hM hK
  have st:=fun {S:List (List AV)} {a:AV} {es':List AV} {G:List HObj}=>store_kept (S:=S) (H:=H) (G:=G) (a:=a) (es:=es')
  simp only [Cz22,A_,simprocAttr,ne_eq,(Uz2g _ _ _).1,hB]
  refine h1 (fun acc=>H ++ [.cells [slZ acc],.loop ⟨c 0,[.s .nilS,.fn (.func g) [] [.ptr (.heap bx) 0],.ptr (.heap H.length) 0,.undef,.s .nilS,.undef,.fn (.func g) [] [.ptr (.heap bx) 0],uu,uu,uu,uu,uu,uu],[7],as1,bd1,true,none⟩]) (H.length + 2) (H.length + 1) bx hm cc es x S _ (fun acc=>by simp) (fun acc=>happ hM.box) (fun acc=>happ hM.map) hM.nd hM.lt hM.val (fun acc v it S' K' hacc hK' => ?_) (fun acc it hp => ?_)
  · have ha:∀(e:ET) (σ:St),e.c=1→e.bytes=8→appendL e false (slZ acc) (.list .full 1 [.s (.int .i64 v)]) σ=some (.list .uniq 1 ((acc ++ [v]).map iA),σ):=fun e σ h1 h2=>app_slZ h1 h2 (by have:=hM.len; omega)
    rw [List.append_assoc]
    refine hR _ _ _ _ _ _ _ (by rw [app_get]; rfl) rfl ?_
    simp only [Cz1p,Cz1q,A_,simprocAttr,ne_eq,(Uz2g _ _ _).1,load_kept,ha,st]
    rw [List.append_assoc,slZ_snoc] at hK'
    exact hK'
  · rw [List.append_assoc]
    simp only [Cz22,A_,simprocAttr,ne_eq,(Uz2g _ _ _).1,load_kept]
    exact ⟨slZ_under,hK _ _ hp⟩
theorem Collect_specV {C:CallW} (P:Program) {c:Nat→FuncId} {g:FuncId} (h0:AppSeqVS C (c 0) g):∀(bx hm cc:Nat) (es:List Entry) (x:Entry→Int) S H (K:AV→St→Prop),MapV H bx hm cc es x→(∀acc G,acc.Perm (es.map x)→K (slZ acc) ⟨S,H ++ G⟩)→runL C P (Cz2e c) [.fn (.func g) [] [.ptr (.heap bx) 0]] ⟨S,H⟩ K:=by
  intro bx hm cc es x S H K hM hK
  simp only [Cz2e,A_,simprocAttr,ne_eq,(Uz2z _).1]
  refine h0 bx hm cc es x S H _ hM fun acc G hp => ?_
  simp only [Cz2e,A_,simprocAttr,ne_eq,(Uz2z _).1]
  exact ⟨slZ_under,hK _ _ hp⟩
def CollVS (C:CallW) (f g:FuncId):Prop:=∀(bx hm c:Nat) (es:List Entry) (x:Entry→Int) S H (K:AV→St→Prop),MapV H bx hm c es x→(∀acc G,acc.Perm (es.map x)→K (slZ acc) ⟨S,H ++ G⟩)→C (.fn f) [.fn (.func g) [] [.ptr (.heap bx) 0]] ⟨S,H⟩ K
def SortedVS (C:CallW) (f g:FuncId):Prop:=∀(bx hm c:Nat) (es:List Entry) (x:Entry→Int) S H (K:AV→St→Prop),MapV H bx hm c es x→(∀ids G,ids.Perm (es.map x)→ids.Pairwise (·≤·)→K (lstZ ids) ⟨S,H ++ G⟩)→C (.fn f) [.fn (.func g) [] [.ptr (.heap bx) 0]] ⟨S,H⟩ K
set_option maxHeartbeats 4000000 in
theorem Sorted_specV {C:CallW} (P:Program) {c:Nat→FuncId} {g:FuncId} (h0:CollVS C (c 0) g) (h1:SortIS C (c 1)) (h1n:OneN C (c 1) (.tup [])):∀(bx hm cc:Nat) (es:List Entry) (x:Entry→Int) S H (K:AV→St→Prop),MapV H bx hm cc es x→(∀ids G,ids.Perm (es.map x)→ids.Pairwise (·≤·)→K (lstZ ids) ⟨S,H ++ G⟩)→runL C P (Cz15 c) [.fn (.func g) [] [.ptr (.heap bx) 0]] ⟨S,H⟩ (WkK K):=by
  intro bx hm cc es x S H K hM hK
  have hfz:∀(e:ET) (σ:St),freezeL e (.s .nilS) σ=some (.s .nilS,σ):=fun _ _=>rfl
  simp only [Cz15,A_,simprocAttr,ne_eq,(Uz1c _).1]
  refine h0 bx hm cc es x S H _ hM fun acc G hp => ?_
  have hal:acc.length≤1000000:=by have:=hp.length_eq; rw [List.length_map] at this; have:=hM.len; omega
  by_cases e:acc=[]
  · subst e
    simp only [Cz15,A_,simprocAttr,ne_eq,(Uz1c _).1]
    rw [thaw_slZ0 rfl]
    simp only [Cz15,A_,simprocAttr,ne_eq,(Uz1c _).1]
    refine h1n _ _ _ ?_
    simp only [Cz15,A_,simprocAttr,ne_eq,(Uz1c _).1,slZ_nil,hfz]
    exact ⟨_,.inr (.nilS (by omega) .nil),hK [] G hp .nil⟩
  · simp only [Cz15,A_,simprocAttr,ne_eq,(Uz1c _).1]
    rw [thaw_slZ e rfl]
    have hS1:(S ++ [flat iA (arrZ acc)])[S.length]? = some (flat iA (arrZ acc)):=by simp
    simp only [Cz15,A_,simprocAttr,ne_eq,(Uz1c _).1,List.set_cons_zero,List.set_cons_succ]
    refine h1 S.length (arrZ acc) _ _ _ hS1 (by show acc.length≤_; omega) fun R hR1 hR2 => ?_
    have hRs:R.size=acc.length:=hR1.1
    have hset:∀x y:List AV,(S ++ [x]).set S.length y=S ++ [y]:=fun x y=>by simp
    rw [hset]
    have hS2:(S ++ [flat iA R])[S.length]? = some (flat iA R):=by simp
    have hf:∀{e:ET},e.c=1→e.ag=false→freezeL e (.row (.stk S.length) 0 acc.length acc.length) ⟨S ++ [flat iA R],H ++ G⟩=_:=fun h1 h2=>freeze_i (H:=H ++ G) h1 h2 hS2 (by omega)
    simp only [hset] at hf
    rw [List.take_of_length_le (by simp [hRs])] at hf
    simp only [Cz15,A_,simprocAttr,ne_eq,(Uz1c _).1,hf]
    exact ⟨_,.inl rfl,hK R.toList G ((sorted_perm hR1).trans hp) (sorted_le hRs hR2)⟩
theorem WhX.vals {H:List HObj} {h hm:Nat} {room now:Int} {l:List (Int×Int)} (t:WhX H h hm room now l):∃es c x,MapV (H ++ [.cells [.map hm]]) H.length hm c es x∧(es.map x).Perm (l.map Prod.snd):=by
  obtain ⟨es,c,a,g⟩:=t.atm
  have hrel:=g.rel
  unfold RelM at hrel
  have hlen:es.length=l.length:=by have:=congrArg List.length hrel; simpa using this
  have hx:∀e∈es,e.val=iA (match e.val with | .s (.int _ v)=>v | _=>0):=by
    intro e he
    obtain ⟨j,hj,rfl⟩:=List.mem_iff_getElem.1 he
    have:=congrArg (fun z=>z[j]?) hrel
    have hj2:j < l.length:=by omega
    simp [hj,hj2] at this
    rw [this.2]; rfl
  refine ⟨es,c,fun e=>match e.val with | .s (.int _ v)=>v | _=>0,⟨by simp,happ a,g.nd,g.lt,hx,?_⟩,?_⟩
  · have:=t.len
    have:=t.rm
    omega
  · have:es.map (fun e=>(match e.val with | .s (.int _ v)=>v | _=>0:Int))=l.map Prod.snd:=by
      refine List.ext_getElem (by simpa using hlen) fun j h1 h2 => ?_
      have h1':j < es.length:=by simpa using h1
      have h2':j < l.length:=by simpa using h2
      have:=congrArg (fun z=>z[j]?) hrel
      simp [h1',h2'] at this
      rw [List.getElem_map,List.getElem_map,this.2]; rfl
    rw [this]
def WNextS (C:CallW) (f:FuncId):Prop:=∀(h hm:Nat) (room now:Int) (l:List (Int×Int)) S H (K:AV→St→Prop),WhX H h hm room now l→(∀(ids:List Int) (G:List HObj),ids.Perm (l.map Prod.snd)→ids.Pairwise (·≤·)→K (.tup [.s (.int .i64 (ids.headD 0)),.s (.bool (!ids.isEmpty))]) ⟨S,H ++ G⟩)→C (.fn f) [.ptr (.heap h) 0] ⟨S,H⟩ K
theorem wheel_Next_spec {C:CallW} (P:Program) {c:Nat→FuncId} {g:FuncId} (h0:ValsS C (c 0) g) (h1:SortedVS C (c 1) g):∀(h hm:Nat) (room now:Int) (l:List (Int×Int)) S H (K:AV→St→Prop),WhX H h hm room now l→(∀(ids:List Int) (G:List HObj),ids.Perm (l.map Prod.snd)→ids.Pairwise (·≤·)→K (.tup [.s (.int .i64 (ids.headD 0)),.s (.bool (!ids.isEmpty))]) ⟨S,H ++ G⟩)→runL C P (Cz21 c) [.ptr (.heap h) 0] ⟨S,H⟩ K:=by
  intro h hm room now l S H K t hK
  have a0:=t.at0
  unfold wlc at a0
  simp only [Cz21,A_,simprocAttr,ne_eq,(Uz2m _).1,CHK_,Nat.reduceBEq,a0]
  refine h0 hm _ _ _ ?_
  obtain ⟨es,cc,x,hM,hp⟩:=t.vals
  simp only [Cz21,A_,simprocAttr,ne_eq,(Uz2m _).1,CHK_,Nat.reduceBEq,a0]
  refine h1 _ hm cc es x _ _ _ hM fun ids G hi1 hi2 => ?_
  have hK:=hK ids (.cells [.map hm] :: G) (hi1.trans hp) hi2
  cases ids with
  | nil =>
    have z:((0:Int)=0)=True:=eq_true rfl
    simp only [lstZ,Cz21,A_,simprocAttr,ne_eq,(Uz2m _).1,CHK_,Nat.reduceBEq,z]
    exact hK
  | cons y ids =>
    have z:(((ids.length + 1:Nat):Int)=0)=False:=eq_false (by omega)
    have x0:∀k:IntKind,indexAddrL (.sl 1) (.list .sh 1 (iA y :: ids.map iA)) (.s (.int k 0))=some (.rop [.s (.int .i64 y)]):=fun k=>by
      have:=ixl_map (f:=iA) (l:=y :: ids) (i:=0) (c:=1) (k:=k) (by simp) (by omega)
      exact this
    simp only [lstZ,Cz21,A_,simprocAttr,ne_eq,(Uz2m _).1,CHK_,Nat.reduceBEq,z,x0]
    exact hK
end Go.AM
namespace Go.AM
open Go
open AV renaming undef → uu
set_option maxRecDepth 20000
theorem st1k {S:List (List AV)} {H:List HObj} {b off:Nat} {cs:List AV} {v:AV} (hb:H[b]? = some (.cells cs)) (h1:off < cs.length) (h2:v.cells=[v]) (h3:v.fit=true) (h4:AV.under 0 v=true):storeL 1 (.ptr (.heap b) off) v ⟨S,H⟩=some ⟨S,H.set b (.cells (cs.set off v))⟩:=by
  have hbo:boxOf ⟨S,H⟩ (.heap b)=some cs:=by simp [boxOf,hb]
  simp [storeL,h2,h3,writeCells,hbo,mayHold,AV.under.go,h4,splice,setBox]
  omega
theorem WhX.ents {H:List HObj} {h hm:Nat} {room now:Int} {l:List (Int×Int)} (t:WhX H h hm room now l):∃es c,∃px:Entry→Int×Int,H[hm]? = some (.map es c)∧(es.map (·.born)).Nodup∧(∀e∈es,e.born < c)∧(∀e∈es,e.key=iA (px e).1∧e.val=iA (px e).2)∧es.map px=l:=by
  obtain ⟨es,c,a,g⟩:=t.atm
  have hrel:=g.rel
  unfold RelM at hrel
  have hlen:es.length=l.length:=by have:=congrArg List.length hrel; simpa using this
  have hget:∀j (h1:j < es.length) (h2:j < l.length),es[j].key=iA l[j].1∧es[j].val=iA l[j].2:=by
    intro j h1 h2
    have:=congrArg (fun z=>z[j]?) hrel
    simp [h1,h2] at this
    exact this
  refine ⟨es,c,fun e=>(match e.key with | .s (.int _ v)=>v | _=>0,match e.val with | .s (.int _ v)=>v | _=>0),a,g.nd,g.lt,fun e he => ?_,?_⟩
  · obtain ⟨j,hj,rfl⟩:=List.mem_iff_getElem.1 he
    obtain ⟨q1,q2⟩:=hget j hj (by omega)
    dsimp only
    rw [q1,q2]; exact ⟨rfl,rfl⟩
  · refine List.ext_getElem (by simpa using hlen) fun j h1 h2 => ?_
    have h1':j < es.length:=by simpa using h1
    obtain ⟨q1,q2⟩:=hget j h1' h2
    rw [List.getElem_map,q1,q2]; rfl
def accW (px:Entry→Int×Int) (to:Int) (vs:List Entry):List Int:=((vs.map px).filter fun p=>decide (p.2≤to)).map Prod.fst
theorem accW_snoc {px:Entry→Int×Int} {to:Int} {vs:List Entry} {e:Entry}:accW px to (vs ++ [e])=if (px e).2≤to then accW px to vs ++ [(px e).1] else accW px to vs:=by
  unfold accW
  by_cases h:(px e).2≤to <;> simp [h,List.filter_append]
def befW (l:List (Int×Int)) (a b:Int):Prop:=dueOf l a < dueOf l b∨(dueOf l a=dueOf l b∧a < b)
def AdvS (C:CallW) (f:FuncId):Prop:=∀(h hm:Nat) (room now:Int) (l:List (Int×Int)) (to:Int) S H (K:AV→St→Prop),WhX H h hm room now l→(to < now→K (lstZ []) ⟨S,H⟩)→(now≤to→∀(H':List HObj) (ids:List Int),Ext H H' h hm→WhX H' h hm room to (l.filter fun p=>decide (to < p.2))→ids.Perm ((l.filter fun p=>decide (p.2≤to)).map Prod.fst)→ids.Pairwise (befW l)→K (lstZ ids) ⟨S,H'⟩)→C (.fn f) [.ptr (.heap h) 0,.s (.int .i64 to)] ⟨S,H⟩ K
theorem nd_fst {l:List (Int×Int)} (h:(l.map Prod.fst).Nodup) {p q:Int×Int} (hp:p∈l) (hq:q∈l) (e:p.1=q.1):p=q:=by
  obtain ⟨i,hi,rfl⟩:=List.mem_iff_getElem.1 hp
  obtain ⟨j,hj,rfl⟩:=List.mem_iff_getElem.1 hq
  by_cases ij:i=j
  · subst ij; rfl
  · have hi':i < (l.map Prod.fst).length:=by simpa using hi
    have hj':j < (l.map Prod.fst).length:=by simpa using hj
    have:=List.pairwise_iff_getElem.1 h
    rcases Nat.lt_or_gt_of_ne ij with q | q
    · exact absurd (by simpa using e) (this i j hi' hj' q)
    · exact absurd (by simpa using e.symm) (this j i hj' hi' q)
theorem adv_rest {l:List (Int×Int)} {to:Int} {ids:List Int} (hn:(l.map Prod.fst).Nodup) (hp:ids.Perm ((l.filter fun p=>decide (p.2≤to)).map Prod.fst)):(l.filter fun p=>decide (p.1∉ids))=l.filter fun p=>decide (to < p.2):=by
  refine List.filter_congr fun p hpl => ?_
  refine decide_eq_decide.2 ?_
  rw [hp.mem_iff,List.mem_map]
  constructor
  · intro q
    rcases Int.lt_or_le to p.2 with h | h
    · exact h
    · exact absurd ⟨p,List.mem_filter.2 ⟨hpl,decide_eq_true h⟩,rfl⟩ q
  · rintro h ⟨q,hq,e⟩
    obtain ⟨hq1,hq2⟩:=List.mem_filter.1 hq
    have:=nd_fst hn hq1 hpl e
    subst this
    have:=of_decide_eq_true hq2
    omega
theorem adv_nd {l:List (Int×Int)} {to:Int} {ids:List Int} (hn:(l.map Prod.fst).Nodup) (hp:ids.Perm ((l.filter fun p=>decide (p.2≤to)).map Prod.fst)):ids.Nodup:=hp.nodup_iff.2 (hn.sublist (List.Sublist.map _ List.filter_sublist))
theorem adv_sorted {l:List (Int×Int)} {R:Array Int} {n:Nat} (hR:R.size=n) (hn:R.toList.Nodup) (h:Sort.SortedIn (ltC (cvW (dueOf l))) 0 n R):R.toList.Pairwise (befW l):=by
  rw [List.pairwise_iff_getElem]
  intro i j hi hj hij
  have hj':j < R.size:=by simpa using hj
  have hi':i < R.size:=by simpa using hi
  have:=h i j (Nat.zero_le _) hij (by omega)
  rw [get_bang hj',get_bang hi',ltC_cvW] at this
  have this:=of_decide_eq_false this
  have hne:=List.pairwise_iff_getElem.1 hn i j hi hj hij
  generalize R.toList[i]=a at this hne ⊢
  generalize R.toList[j]=b at this hne ⊢
  unfold befW
  omega
set_option maxHeartbeats 16000000 in
theorem wheel_Advance_spec {C:CallW} (hC:LeC C C) (P:Program) {c:Nat→FuncId} (hA:CvS C (c 0)) (h1:∀r due,SortFS C (c 0) [.ptr (.stk r) 0] (cvW due) (c 1)) (h1n:SortFN C (c 1)):∀(h hm:Nat) (room now:Int) (l:List (Int×Int)) (to:Int) S H (K:AV→St→Prop),WhX H h hm room now l→(to < now→K (lstZ []) ⟨S,H⟩)→(now≤to→∀(H':List HObj) (ids:List Int),Ext H H' h hm→WhX H' h hm room to (l.filter fun p=>decide (to < p.2))→ids.Perm ((l.filter fun p=>decide (p.2≤to)).map Prod.fst)→ids.Pairwise (befW l)→K (lstZ ids) ⟨S,H'⟩)→runL C P (Czg c) [.ptr (.heap h) 0,.s (.int .i64 to)] ⟨S,H⟩ (WkK K):=by
  intro h hm room now l to S H K t hlow hK
  have hfz:∀(e:ET) (σ:St),freezeL e (.s .nilS) σ=some (.s .nilS,σ):=fun _ _=>rfl
  have a0:=t.at0
  unfold wlc at a0
  by_cases hto:to < now
  · simp only [Czg,A_,simprocAttr,ne_eq,(Uzk _).1,CHK_,Nat.reduceBEq,a0,hto]
    exact ⟨_,.inr (.nilS (by omega) .nil),hlow hto⟩
  have hK:=hK (by omega)
  clear hlow
  have hst:=fun S'=>st1k (S:=S') (off:=1) (v := .s (.int .i64 to)) a0 (by simp) rfl rfl rfl
  have t1:=t.setn (now':=to)
  have k1:Ext H (H.set h (.cells (wlc room to hm))) h hm := .set1
  have hst:∀S',storeL 1 (.ptr (.heap h) 1) (.s (.int .i64 to)) ⟨S',H⟩=some ⟨S',H.set h (.cells (wlc room to hm))⟩:=hst
  generalize H.set h (.cells (wlc room to hm))=H1 at t1 hst k1
  have a1:=t1.at0
  unfold wlc at a1
  obtain ⟨es,cc,px,am,hnd,hlt,hkv,hmap⟩:=t1.ents
  have hel:es.length=l.length:=by rw [←hmap]; simp
  have hl1:l.length≤1000:=by have:=t.len; have:=t.rm; omega
  simp only [Czg,A_,simprocAttr,ne_eq,(Uzk _).1,CHK_,Nat.reduceBEq,a0,hto,hst,a1]
  rw [opS_rng rfl am]
  simp only [Czg,A_,simprocAttr,ne_eq,(Uzk _).1,CHK_,Nat.reduceBEq]
  refine loop_rule hC (α:=List Entry) (fun vs=>es.length - vs.length) (fun vs=>[.undef,.s (.int .i64 to),.ptr (.stk S.length) 0,uu,uu,slZ (accW px to vs),uu,uu,uu,uu,uu,uu,uu,uu,uu,uu,uu,uu,uu,uu,uu,uu,uu,uu,.ptr (.heap H1.length) 0,uu,uu,uu,uu,uu,uu,uu,uu,uu,uu,uu,uu,uu,uu,uu,uu,uu,uu,uu,uu,uu,uu,uu,uu,uu,uu,uu,uu]) (fun _=>S ++ [[.ptr (.heap h) 0]]) (fun vs=>H1 ++ [.iter ⟨some hm,cc,vs.map (·.born),cc⟩]) (fun vs=>(vs.map (·.born)).Nodup∧∀e∈vs,e∈es) [] ⟨.nil,fun e h=>by cases h⟩ (by simp [keep,zm,accW,slZ_nil]) (by rw [app_take_add]; rfl) rfl (fun a _=>by simp [AV.under,AV.under.go,slZ_under]) ?_
  rintro vs ⟨hvn,hvs⟩ ih
  have hit:(H1 ++ [.iter ⟨some hm,cc,vs.map (·.born),cc⟩])[H1.length]? = some (.iter ⟨some hm,cc,vs.map (·.born),cc⟩):=by simp
  have hmm:∀o,(H1 ++ [o])[hm]? = some (.map es cc):=fun o=>happ am
  simp only [Czg,A_,simprocAttr,ne_eq,(Uzk _).1]
  rw [opS_nxt rfl hit rfl (hmm _)]
  refine ⟨?_,fun hall => ?_,fun e he hns => ?_⟩
  · cases vs with
    | nil=>exact .inl rfl
    | cons v vs=>exact .inr (.inr ⟨v,hvs v List.mem_cons_self,hlt v (hvs v List.mem_cons_self)⟩)
  · have hp:vs.Perm es:=by
      refine (List.perm_ext_iff_of_nodup ?_ ?_).2 fun e=>⟨hvs e,fun he => ?_⟩
      · exact List.Pairwise.of_map (·.born) (fun a b h e=>h (by rw [e])) hvn
      · exact List.Pairwise.of_map (·.born) (fun a b h e=>h (by rw [e])) hnd
      · rcases hall e he with h1 | h1
        · rw [List.mem_map] at h1
          obtain ⟨v,hv,hb⟩:=h1
          have q1:=born_find hnd (hvs v hv)
          have q2:=born_find hnd he
          rw [hb,q2] at q1
          rw [Option.some.inj q1]; exact hv
        · have:=hlt e he
          exact absurd h1 (by dsimp only; omega)
    have hacc:(accW px to vs).Perm ((l.filter fun p=>decide (p.2≤to)).map Prod.fst):=by
      unfold accW
      rw [←hmap]
      exact ((hp.map px).filter _).map _
    generalize accW px to vs=acc at hacc
    have t2:WhX (H1 ++ [.iter ⟨some hm,cc,vs.map (·.born),cc⟩]) h hm room to l:=t1.app
    have k2:Ext H (H1 ++ [.iter ⟨some hm,cc,vs.map (·.born),cc⟩]) h hm:=k1.trans .app
    clear ih hit hmm hall
    generalize H1 ++ [.iter ⟨some hm,cc,vs.map (·.born),cc⟩]=H2 at t2 k2 ⊢
    have hal:acc.length≤1000000:=by
      have h3:=hacc.length_eq
      rw [List.length_map] at h3
      have:=List.length_filter_le (fun p:Int×Int=>decide (p.2≤to)) l
      omega
    by_cases e:acc=[]
    · subst e
      simp only [Czg,A_,simprocAttr,ne_eq,(Uzk _).1]
      rw [thaw_slZ0 rfl]
      have hu:AV.under.go (S.length + 1) [.ptr (.stk S.length) 0]=true:=by simp [AV.under,AV.under.go]
      simp only [Czg,A_,simprocAttr,ne_eq,(Uzk _).1,slZ_nil]
      refine h1n _ _ _ _ _ (by simpa using hu) ?_
      have z:((0:Int) < 0)=False:=eq_false (by omega)
      simp only [Czg,A_,simprocAttr,ne_eq,(Uzk _).1,slZ_nil]
      refine loop_ruleS hC (α:=Unit) (fun _=>0) (fun _=>[uu,uu,.ptr (.stk S.length) 0,uu,uu,.s .nilS,uu,uu,uu,uu,uu,uu,uu,uu,uu,uu,uu,uu,uu,uu,uu,uu,uu,uu,uu,uu,uu,uu,uu,uu,uu,uu,uu,uu,uu,uu,uu,uu,uu,uu,.s .nilS,.s (.int .i64 0),.s (.int .i64 0),uu,uu,uu,uu,uu,uu,uu,uu,uu,uu]) (fun _=>True) () trivial (by simp [keep,zm]) (by rw [app_take_add]; rfl) (fun a _=>by simp [AV.under,AV.under.go]) ?_
      rintro _ _ ih2
      simp only [Czg,A_,simprocAttr,ne_eq,(Uzk _).1,hfz,z]
      refine ⟨_,.inr (.nilS (by omega) .nil),hK H2 [] k2 ?_ hacc .nil⟩
      have:=adv_rest t.nd hacc
      rw [←this,List.filter_eq_self.2 fun p _=>by simp]
      exact t2
    · simp only [Czg,A_,simprocAttr,ne_eq,(Uzk _).1]
      rw [thaw_slZ e rfl]
      simp only [Czg,A_,simprocAttr,ne_eq,(Uzk _).1,List.set_cons_zero,List.set_cons_succ]
      have hds:(arrZ acc).size=acc.length:=rfl
      have hnd2:=t.nd
      have hS1:(S ++ [[.ptr (.heap h) 0],flat iA (arrZ acc)])[S.length + 1]? = some (flat iA (arrZ acc)):=app_get _ _ 1
      refine h1 S.length (dueOf l) (S.length + 1) (arrZ acc) _ _ _ ⟨fun k hk => ?_,fun x y S' K' hS' hK' => ?_⟩ hS1 (by rw [hds]; omega) fun R hR1 hR2 => ?_
      · simp at hk
        simp [AV.under,AV.under.go]
        omega
      · refine hA h hm S.length room to l x y S' H2 K' t2 ?_ hK'
        rw [hS' S.length (by simp) (by omega) (by omega)]
        exact app_get0 _ _
      have hRs:R.size=acc.length:=hR1.1
      have hRp:R.toList.Perm ((l.filter fun p=>decide (p.2≤to)).map Prod.fst):=(sorted_perm hR1).trans hacc
      have hRn:=adv_nd hnd2 hRp
      have hRo:=adv_sorted (l:=l) hRs hRn (by rw [←hRs]; rw [hds,←hRs] at hR2; exact hR2)
      have hrest:=adv_rest hnd2 hRp
      have hset:∀x y:List AV,(S ++ [[.ptr (.heap h) 0],x]).set (S.length + 1) y=S ++ [[.ptr (.heap h) 0],y]:=fun x y=>app_set _ _ 1 _
      rw [hset]
      have hS2:(S ++ [[.ptr (.heap h) 0],flat iA R])[S.length + 1]? = some (flat iA R):=app_get _ _ 1
      have hK:=fun H' q1 q2=>hK H' R.toList q1 q2 hRp hRo
      generalize acc.length=N at hRs hal ⊢
      simp only [Czg,A_,simprocAttr,ne_eq,(Uzk _).1]
      refine loop_rule hC (α:=Nat×List HObj) (fun x=>N - x.1) (fun x=>[uu,uu,.ptr (.stk S.length) 0,uu,uu,.row (.stk (S.length + 1)) 0 N N,uu,uu,uu,uu,uu,uu,uu,uu,uu,uu,uu,uu,uu,uu,uu,uu,uu,uu,uu,uu,uu,uu,uu,uu,uu,uu,uu,uu,uu,uu,uu,uu,uu,uu,.row (.stk (S.length + 1)) 0 N N,.s (.int .i64 (N:Nat)),.s (.int .i64 (x.1:Nat)),uu,uu,uu,uu,uu,uu,uu,uu,uu,uu]) (fun _=>S ++ [[.ptr (.heap h) 0],flat iA R]) (fun x=>x.2) (fun x=>x.1≤N∧WhX x.2 h hm room to (l.filter fun p=>decide (p.1∉R.toList.take x.1))∧Ext H x.2 h hm) (0,H2) ⟨Nat.zero_le _,by dsimp only; rw [List.filter_eq_self.2 fun p _=>by simp]; exact t2,k2⟩ (by simp [keep,zm]) (by rw [app_take_add]; rfl) rfl (fun x _=>by simp [AV.under,AV.under.go]) ?_
      rintro ⟨k,Hk⟩ ⟨hk,tk,kk⟩ ih2
      dsimp only at hk tk kk ih2 ⊢
      by_cases hkN:k < N
      · have hltk:((k:Int) < (N:Int)):=by omega
        have hwk:=wrap_succ (i:=k) (by omega)
        have x1:∀q:IntKind,indexAddrL (.sl 1) (.row (.stk (S.length + 1)) 0 N N) (.s (.int q (k:Int)))=some (.ptr (.stk (S.length + 1)) k):=fun q=>ixi hkN
        have r1:=ird (H:=Hk) hS2 (i:=k) (by omega)
        have ak:=tk.at0
        unfold wlc at ak
        obtain ⟨es2,c2,hdel,t3⟩:=tk.del R[k]!
        have htk:R.toList.take (k + 1)=R.toList.take k ++ [R[k]!]:=take_at (by omega)
        have e3:delW (l.filter fun p=>decide (p.1∉R.toList.take k)) R[k]! = l.filter fun p=>decide (p.1∉R.toList.take (k + 1)):=by
          unfold delW
          rw [List.filter_filter,htk]
          refine List.filter_congr fun p _ => ?_
          simp only [List.mem_append,List.mem_singleton,not_or]
          rw [Bool.decide_and,Bool.and_comm]
        rw [e3] at t3
        simp only [Czg,A_,simprocAttr,ne_eq,(Uzk _).1,hltk,x1,r1,ak,hdel,hwk]
        exact ih2 (k + 1,_) _ _ _ (by dsimp only; omega) ⟨by dsimp only; omega,t3,kk.trans .set2⟩ (by simp [keep,zm]) (by rw [app_take_add]; rfl) rfl
      · have hltk:¬((k:Int) < (N:Int)):=by omega
        rw [List.take_of_length_le (by simp; omega),hrest] at tk
        have hf:∀{e:ET},e.c=1→e.ag=false→freezeL e (.row (.stk (S.length + 1)) 0 N N) ⟨S ++ [[.ptr (.heap h) 0],flat iA R],Hk⟩=_:=fun h1 h2=>freeze_i (H:=Hk) h1 h2 hS2 (by omega)
        simp only [hset] at hf
        rw [List.take_of_length_le (by simp [hRs])] at hf
        simp only [Czg,A_,simprocAttr,ne_eq,(Uzk _).1,hltk,hf]
        exact ⟨_,.inl rfl,hK Hk kk tk⟩
  · have hk:=hkv e he
    have hit2:(H1 ++ [.iter ⟨some hm,cc,vs.map (·.born) ++ [e.born],cc⟩])[H1.length]? = some (.iter ⟨some hm,cc,vs.map (·.born) ++ [e.born],cc⟩):=by simp
    have hset:∀o o':HObj,(H1 ++ [o]).set H1.length o'=H1 ++ [o']:=fun o o'=>by simp
    have hb:((vs ++ [e]).map (·.born)).Nodup:=by
      rw [List.map_append,List.nodup_append]
      exact ⟨hvn,by simp,fun a ha b hb=>by
        have:b=e.born:=by simpa using hb
        subst this
        exact fun e2=>hns (e2▸ha)⟩
    have hmem:∀z∈vs ++ [e],z∈es:=fun z hz=>by
      rcases List.mem_append.1 hz with hz | hz
      · exact hvs z hz
      · have:z=e:=by simpa using hz
        rw [this]; exact he
    have hll:vs.length < es.length:=by
      have hnd2:(vs ++ [e]).Nodup:=List.Pairwise.of_map (·.born) (fun a b h e=>h (by rw [e])) hb
      have h1:(vs ++ [e]).length≤es.length:=hnd2.length_le_of_subset hmem
      simp at h1; omega
    have hacl:(accW px to vs).length≤1000000:=by
      unfold accW
      rw [List.length_map]
      have:=List.length_filter_le (fun p:Int×Int=>decide (p.2≤to)) (vs.map px)
      rw [List.length_map] at this
      omega
    have hsn:=accW_snoc (px:=px) (to:=to) (vs:=vs) (e:=e)
    have ihx:=ih (vs ++ [e])
    clear ih
    dsimp only at ihx
    rw [hsn,show (vs ++ [e]).map (·.born)=vs.map (·.born) ++ [e.born] by simp] at ihx
    dsimp only
    rw [hset]
    simp only [Czg,A_,simprocAttr,ne_eq,(Uzk _).1]
    rw [opS_ent rfl hit2 rfl (hmm _) (b:=e.born) (by simp) rfl (born_find hnd he),hk.1,hk.2]
    generalize px e=pe at *
    obtain ⟨i,a⟩:=pe
    dsimp only at *
    by_cases hd:a≤to
    · rw [if_pos hd] at ihx
      have ha:∀(e:ET) (σ:St),e.c=1→e.bytes=8→appendL e false (slZ (accW px to vs)) (.list .full 1 [.s (.int .i64 i)]) σ=some (slZ (accW px to vs ++ [i]),σ):=fun e σ h1 h2=>by rw [slZ_snoc]; exact app_slZ h1 h2 hacl
      by_cases hz:accW px to vs=[]
      · rw [hz] at ha ihx ⊢
        simp only [slZ_nil] at ha ihx ⊢
        simp only [iA,Czg,A_,simprocAttr,ne_eq,(Uzk _).1,hd,ha,bslL,fillE,List.isEmpty_cons,List.isEmpty_nil]
        exact ihx _ _ _ (by simp; omega) ⟨by rw [List.map_append] at hb; exact hb,hmem⟩ (by simp [keep,zm]) (by rw [app_take_add]; rfl) rfl
      · obtain ⟨es3,he3⟩:∃es3,slZ (accW px to vs) = .list .uniq 1 es3:=⟨_,if_neg hz⟩
        rw [he3] at ha ⊢
        simp only [iA,Czg,A_,simprocAttr,ne_eq,(Uzk _).1,hd,ha,bslL,fillE,List.isEmpty_cons,List.isEmpty_nil]
        exact ihx _ _ _ (by simp; omega) ⟨by rw [List.map_append] at hb; exact hb,hmem⟩ (by simp [keep,zm]) (by rw [app_take_add]; rfl) rfl
    · rw [if_neg hd] at ihx
      simp only [iA,Czg,A_,simprocAttr,ne_eq,(Uzk _).1,hd]
      exact ihx _ _ _ (by simp; omega) ⟨by rw [List.map_append] at hb; exact hb,hmem⟩ (by simp [keep,zm]) (by rw [app_take_add]; rfl) rfl
end Go.AM
namespace Go.AM
open Go
set_option maxRecDepth 20000
end Go.AM
namespace Go.AM
open Go
set_option maxRecDepth 20000
end Go.AM
namespace Go.AM
open Go
open AV renaming undef → uu
set_option maxRecDepth 20000
theorem ixl_n {l:List Int} {i:Nat} (h:i < l.length) (k:IntKind):indexAddrL (.sl 1) (.list .sh 1 (l.map pI)) (.s (.int k (i:Int)))=some (.rop [.s (.int .i64 l[i])]):=ixl_map h (by omega)
def SameIS (C:CallW) (f:FuncId):Prop:=∀(a b:List Int) S H (K:AV→St→Prop),a.length≤1000000→b.length≤1000000→K (.bool (decide (a=b))) ⟨S,H⟩→C (.fn f) [lstN a,lstN b] ⟨S,H⟩ K
set_option maxHeartbeats 4000000 in
theorem sameI_spec {C:CallW} (hC:LeC C C) (P:Program):∀(a b:List Int) S H (K:AV→St→Prop),a.length≤1000000→b.length≤1000000→K (.bool (decide (a=b))) ⟨S,H⟩→runL C P Cz18 [lstN a,lstN b] ⟨S,H⟩ K:=by
  intro a b S H K ha hb hK
  by_cases hl:a.length=b.length
  case neg =>
    have hl':((a.length:Int)=(b.length:Int))=False:=eq_false (by omega)
    rw [decide_eq_false (fun e=>hl (by rw [e]))] at hK
    simp only [lstN,Cz18,A_,simprocAttr,ne_eq,Uz1o.1,hl']
    exact hK
  have hl':((a.length:Int)=(b.length:Int))=True:=eq_true (by omega)
  simp only [lstN,Cz18,A_,simprocAttr,ne_eq,Uz1o.1,hl']
  refine loop_rule hC (α:=Nat) (fun x=>a.length - x) (fun x=>[.list .sh 1 (a.map pI),.list .sh 1 (b.map pI),uu,uu,uu,.s (.int .i64 (x:Nat)),uu,uu,uu,uu,uu,uu,uu,uu,uu,uu,uu,uu,uu,uu,uu,uu,uu,uu,uu,uu]) (fun _=>S) (fun _=>H) (fun i=>i≤a.length∧a.take i=b.take i) 0 ⟨by simp,rfl⟩ (by simp [keep,zm]) (by simp) rfl (fun i hi=>by simp [AV.under,AV.under.go]) ?_
  rintro i ⟨hi,hinv⟩ ih
  by_cases h16:i < a.length
  · have h17:i < b.length:=by omega
    have hlt:((i:Int) < (a.length:Int)):=by omega
    have hw:=wrap_succ (i:=i) (by omega)
    have x1:=ixl_n h16
    have x2:=ixl_n h17
    simp only [Cz18,A_,simprocAttr,ne_eq,Uz1o.1,hlt,x1,x2]
    by_cases he:a[i]=b[i]
    · have he':(a[i]=b[i])=True:=eq_true he
      simp only [Cz18,A_,simprocAttr,ne_eq,Uz1o.1,he',hw]
      exact ih (i + 1) _ _ _ (by omega) ⟨by omega,by rw [List.take_succ_eq_append_getElem h16,List.take_succ_eq_append_getElem h17,hinv,he]⟩ (by simp [keep,zm]) (by simp) rfl
    · have he':(a[i]=b[i])=False:=eq_false he
      rw [decide_eq_false (fun e=>he (by subst e; rfl))] at hK
      simp only [Cz18,A_,simprocAttr,ne_eq,Uz1o.1,he']
      exact hK
  · have hlt:¬((i:Int) < (a.length:Int)):=by omega
    rw [List.take_of_length_le (by omega),List.take_of_length_le (by omega)] at hinv
    rw [decide_eq_true hinv] at hK
    simp only [Cz18,A_,simprocAttr,ne_eq,Uz1o.1,hlt]
    exact hK
end Go.AM
namespace Go.AM
open Go
set_option maxRecDepth 20000
theorem ids_eq {ids m:List Int} (hp:ids.Perm m) (h1:ids.Pairwise (·≤·)) (h2:m.Pairwise (·≤·)):ids=m:=List.Perm.eq_of_pairwise (le:=fun a b:Int=>a≤b) (fun a b _ _ h1 h2=>by omega) h1 h2 hp
theorem ids_eqW {l:List (Int×Int)} {ids m:List Int} (hp:ids.Perm m) (h1:ids.Pairwise (befW l)) (h2:m.Pairwise (befW l)):ids=m:=List.Perm.eq_of_pairwise (le:=befW l) (fun a b _ _ h1 h2=>by unfold befW at h1 h2; omega) h1 h2 hp
theorem reP0:refEq 0 (.s .nilP) (.s .nilP)=some true:=rfl
theorem reP1 {n:Nat}:refEq 0 (.ptr (.heap n) 0) (.s .nilP)=some false:=rfl
theorem lst_wkZ {a:AV} {l:List Int}:WkF [a,.list .full 1 (l.map iA)] [a,lstZ l] := .same (.wk (show WkL [.list .full 1 (l.map iA)] [lstZ l] from .full .nil) .nil)
def AwWS (C:CallW) (f:FuncId):Prop:=∀S H (K:AV→St→Prop),(∀H',K (.bool true) ⟨S,H'⟩)→C (.fn f) [] ⟨S,H⟩ K
set_option maxHeartbeats 8000000 in
theorem law21_awake_spec {C:CallW} (hC:LeC C C) (hW:WkC C) (P:Program) {c:Nat→FuncId} (h0:NewWS C (c 0)) (h1:SetWS C (c 1)) (h2:WNextS C (c 2)) (h3:AdvS C (c 3)) (h4:SameIS C (c 4)) (h5:WLenS C (c 5)) (h6:WNowS C (c 6)):∀S H (K:AV→St→Prop),(∀H',K (.bool true) ⟨S,H'⟩)→runL C P (Czt c) [] ⟨S,H⟩ K:=by
  intro S H K hK
  simp only [Czt,A_,simprocAttr,ne_eq,(Uzz _).1]
  refine h0 5 _ _ _ (fun q=>absurd q (by omega)) fun _ _ t => ?_
  generalize H ++ [HObj.map [] 0,.cells (wlc 5 0 H.length)]=H0 at t ⊢
  generalize H.length + 1=h at t ⊢
  generalize H.length=hm at t
  simp only [Czt,A_,simprocAttr,ne_eq,(Uzz _).1,reP0,reP1]
  refine h1 h hm 5 0 [] 2 5 _ _ _ t fun H1 _ t => ?_
  have e1:setW 5 0 [] 2 5=(0,[(2,5)]):=rfl
  rw [e1] at t ⊢
  simp only [Czt,A_,simprocAttr,ne_eq,(Uzz _).1]
  refine h1 h hm 5 0 [(2,5)] 1 5 _ _ _ t fun H2 _ t => ?_
  have e2:setW 5 0 [(2,5)] 1 5=(0,[(2,5),(1,5)]):=rfl
  rw [e2] at t ⊢
  simp only [Czt,A_,simprocAttr,ne_eq,(Uzz _).1]
  refine h1 h hm 5 0 [(2,5),(1,5)] 3 4 _ _ _ t fun H3 _ t => ?_
  have e3:setW 5 0 [(2,5),(1,5)] 3 4=(0,[(2,5),(1,5),(3,4)]):=rfl
  rw [e3] at t ⊢
  simp only [Czt,A_,simprocAttr,ne_eq,(Uzz _).1]
  refine h2 h hm 5 0 [(2,5),(1,5),(3,4)] _ _ _ t fun ids G hp hs => ?_
  have hi:ids=[4,5,5]:=ids_eq (hp.trans (by decide)) hs (by decide)
  rw [hi]
  simp only [List.headD_cons,List.isEmpty_cons,Bool.not_false,Czt,A_,simprocAttr,ne_eq,(Uzz _).1]
  refine h3 h hm 5 0 [(2,5),(1,5),(3,4)] 5 _ _ _ t.app (fun q=>absurd q (by omega)) fun _ H4 ids2 _ t hp hs => ?_
  have hi:ids2=[3,1,2]:=ids_eqW (hp.trans (by decide)) hs (by simp [befW,dueOf,getB])
  rw [hi]
  have t:WhX H4 h hm 5 5 []:=t
  simp only [Czt,A_,simprocAttr,ne_eq,(Uzz _).1,bslL,fillE,List.isEmpty_cons,List.isEmpty_nil]
  refine hW _ _ _ _ _ (lst_wkZ (l:=[3,1,2])) (h4 [3,1,2] [3,1,2] _ _ _ (by decide) (by decide) ?_)
  rw [decide_eq_true rfl]
  simp only [Czt,A_,simprocAttr,ne_eq,(Uzz _).1]
  refine h5 h hm 5 5 [] _ _ _ t ?_
  simp only [Czt,A_,simprocAttr,ne_eq,(Uzz _).1]
  refine h6 h hm 5 5 [] _ _ _ t ?_
  simp only [Czt,A_,simprocAttr,ne_eq,(Uzz _).1]
  exact hK _
end Go.AM
namespace Go.AM
open Go
set_option maxRecDepth 20000
theorem due_mem {l:List (Int×Int)} (hn:(l.map Prod.fst).Nodup) {p:Int×Int} (h:p∈l):dueOf l p.1=p.2:=by
  unfold dueOf
  cases hg:getB Prod.fst l p.1 with
  | none=>exact absurd rfl (getB_none hg p h)
  | some q =>
    obtain ⟨q1,q2⟩:=getB_mem hg
    rw [nd_fst hn q1 h q2]
end Go.AM
namespace Go.AM
open Go
open AV renaming undef → uu
set_option maxRecDepth 20000
def dAc (p:Int×Int):List AV:=[.s (.int .i64 p.1),.s (.int .i64 p.2)]
def dA (p:Int×Int):AV := .agg (dAc p)
theorem dA_low:∀l:List (Int×Int),AV.under.go 0 (l.map dA)=true
  | []=>rfl
  | x :: l=>by
    rw [List.map_cons]
    have:=dA_low l
    show (AV.under.go 0 (dAc x) && AV.under.go 0 (l.map dA))=true
    rw [this]; rfl
section
variable {e:ET} {σ:St}
theorem app2a (h1:e.c=2) (h2:e.bytes=16) {xs:List (Int×Int)} (hl:xs.length≤1000):appendL e false (.list .full 2 []) (.list .sh 2 (xs.map dA)) σ=some (if xs=[] then .list .full 2 [] else .list .uniq 2 (xs.map dA),σ):=by
  have he:elemsL e (.list .sh 2 (xs.map dA)) σ=some (xs.map dA):=by simp [elemsL,h1]
  have hlow:=dA_low xs
  unfold appendL
  simp only [srcL,AV.isSlice,if_true,he,Option.bind_some,AV.under,hlow,appItems,h1,h2,ne_eq,not_true_eq_false,if_false]
  by_cases q:xs=[]
  · subst q; rfl
  · rw [if_neg (by simp [q]),if_pos (by simp),if_pos (by simp; omega),if_neg q]
theorem app2n (h1:e.c=2):appendL e false (.list .full 2 []) (.s .nilS) σ=some (.list .full 2 [],σ):=by
  unfold appendL
  simp [srcL,AV.isSlice,elemsL,appItems,h1,AV.under.go]
theorem app2b (h1:e.c=2) (h2:e.bytes=16) {xs:List (Int×Int)} {a:Int×Int} (hl:xs.length≤1000):appendL e false (if xs=[] then .list .full 2 [] else .list .uniq 2 (xs.map dA)) (.list .full 2 [dA a]) σ=some (.list .uniq 2 ((xs ++ [a]).map dA),σ):=by
  have he:elemsL e (.list .full 2 [dA a]) σ=some [dA a]:=by simp [elemsL,h1]
  have hlow:=dA_low [a]
  rw [List.map_cons,List.map_nil] at hlow
  unfold appendL
  simp only [srcL,AV.isSlice,if_true,he,Option.bind_some,AV.under,hlow]
  by_cases q:xs=[]
  · subst q
    simp [appItems,h1,h2]
  · rw [if_neg q]
    have:2 * (xs.length + 1) * 16≤2 ^ 48:=by omega
    simp only [appItems,h1,h2,ne_eq,not_true_eq_false,if_false,List.isEmpty_cons,Bool.false_eq_true,List.length_map,List.length_cons,List.length_nil,Nat.zero_add,this,if_true]
    simp
theorem app2c (h1:e.c=2) (h2:e.bytes=16) {ys zs:List (Int×Int)} (hy:ys.length≤2000) (hl:zs.length≤1000):appendL e false (.list .uniq 2 (ys.map dA)) (.list .sh 2 (zs.map dA)) σ=some (.list .uniq 2 ((ys ++ zs).map dA),σ):=by
  have he:elemsL e (.list .sh 2 (zs.map dA)) σ=some (zs.map dA):=by simp [elemsL,h1]
  have hlow:=dA_low zs
  unfold appendL
  simp only [srcL,AV.isSlice,if_true,he,Option.bind_some,AV.under,hlow]
  by_cases q:zs=[]
  · subst q
    simp [appItems,h1,h2]
  · have:2 * (ys.length + zs.length) * 16≤2 ^ 48:=by omega
    have hne:(zs.map dA).isEmpty=false:=by simp [q]
    simp only [appItems,h1,h2,hne,ne_eq,not_true_eq_false,if_false,Bool.false_eq_true,List.length_map,this,if_true]
    simp
theorem app2d (h1:e.c=2) {ys:List AV}:appendL e false (.list .uniq 2 ys) (.s .nilS) σ=some (.list .uniq 2 ys,σ):=by
  unfold appendL
  simp [srcL,AV.isSlice,elemsL,appItems,h1,AV.under.go]
end
theorem ixl_d {l:List (Int×Int)} {i:Nat} (h:i < l.length) (k:IntKind):indexAddrL (.sl 2) (.list .sh 2 (l.map dA)) (.s (.int k (i:Int)))=some (.rop [.s (.int .i64 l[i].1),.s (.int .i64 l[i].2)]):=ixl_map h (by omega)
def RlV (v:AV) (L:List (Int×Int)):Prop:=(v = .s .nilS∧L=[])∨v = .list .own 2 (L.map dA)∨v = .list .sh 2 (L.map dA)
def refC (room now:Int) (v:AV):List AV:=[.s (.int .i64 room),.s (.int .i64 now),v]
section
variable {S:List (List AV)} {q:Nat} {room now:Int} {v:AV} {L:List (Int×Int)}
theorem ref_l0 (h:S[q]? = some (refC room now v)) (H:List HObj):load1L false (.ptr (.stk q) 0) ⟨S,H⟩=some (.s (.int .i64 room),⟨S,H⟩):=by
  simp only [load1L,boxOf_stk,h,Option.bind_some,refC]; rfl
theorem ref_l1 (h:S[q]? = some (refC room now v)) (H:List HObj):load1L false (.ptr (.stk q) 1) ⟨S,H⟩=some (.s (.int .i64 now),⟨S,H⟩):=by
  simp only [load1L,boxOf_stk,h,Option.bind_some,refC]; rfl
theorem ref_l2 (h:S[q]? = some (refC room now v)) (hv:RlV v L):(L=[]∧∀H,load1L false (.ptr (.stk q) 2) ⟨S,H⟩=some (.s .nilS,⟨S,H⟩))∨∀H,load1L false (.ptr (.stk q) 2) ⟨S,H⟩=some (.list .sh 2 (L.map dA),⟨S,H⟩):=by
  rcases hv with ⟨rfl,rfl⟩ | rfl | rfl
  · exact .inl ⟨rfl,fun H=>by simp only [load1L,boxOf_stk,h,Option.bind_some,refC]; rfl⟩
  · exact .inr fun H=>by simp only [load1L,boxOf_stk,h,Option.bind_some,refC]; rfl
  · exact .inr fun H=>by simp only [load1L,boxOf_stk,h,Option.bind_some,refC]; rfl
theorem ref_s2 (h:S[q]? = some (refC room now v)) {w:AV} (h2:w.cells=[w]) (h3:w.fit=true) (h4:AV.under q w=true) (H:List HObj):storeL 1 (.ptr (.stk q) 2) w ⟨S,H⟩=some ⟨S.set q (refC room now w),H⟩:=by
  have hbo:boxOf ⟨S,H⟩ (.stk q)=some (refC room now v):=by rw [boxOf_stk,h]
  simp [storeL,h2,h3,writeCells,hbo,mayHold,AV.under.go,h4,splice,setBox,refC]
theorem ref_s1 (h:S[q]? = some (refC room now v)) {now':Int} (H:List HObj):storeL 1 (.ptr (.stk q) 1) (.s (.int .i64 now')) ⟨S,H⟩=some ⟨S.set q (refC room now' v),H⟩:=by
  have hbo:boxOf ⟨S,H⟩ (.stk q)=some (refC room now v):=by rw [boxOf_stk,h]
  simp [storeL,AV.cells,AV.fit,writeCells,hbo,mayHold,AV.under.go,AV.under,splice,setBox,refC]
end
theorem delW_snoc {L:List (Int×Int)} {x:Int×Int} {id:Int}:delW (L ++ [x]) id=delW L id ++ (if x.1=id then [] else [x]):=by
  unfold delW
  rw [List.filter_append]
  congr 1
  by_cases h:x.1=id <;> simp [h]
def RLenS (C:CallW) (f:FuncId):Prop:=∀(q:Nat) (room now:Int) (v:AV) (L:List (Int×Int)) S H (K:AV→St→Prop),S[q]? = some (refC room now v)→RlV v L→K (.s (.int .i64 (L.length:Nat))) ⟨S,H⟩→C (.fn f) [.ptr (.stk q) 0] ⟨S,H⟩ K
theorem RLen_spec {C:CallW} (P:Program):∀(q:Nat) (room now:Int) (v:AV) (L:List (Int×Int)) S H (K:AV→St→Prop),S[q]? = some (refC room now v)→RlV v L→K (.s (.int .i64 (L.length:Nat))) ⟨S,H⟩→runL C P Cz1s [.ptr (.stk q) 0] ⟨S,H⟩ K:=by
  intro q room now v L S H K hS hv hK
  rcases ref_l2 hS hv with ⟨rfl,ld⟩ | ld
  · simp only [Cz1s,A_,simprocAttr,ne_eq,Uz2p.1,CHK_,Nat.reduceBEq,ld]
    exact hK
  · simp only [Cz1s,A_,simprocAttr,ne_eq,Uz2p.1,CHK_,Nat.reduceBEq,ld]
    exact hK
def RNextS (C:CallW) (f:FuncId):Prop:=∀(q:Nat) (room now:Int) (v:AV) (L:List (Int×Int)) S H (K:AV→St→Prop),S[q]? = some (refC room now v)→RlV v L→K (.tup [.s (.int .i64 ((L.map Prod.snd).headD 0)),.s (.bool (!L.isEmpty))]) ⟨S,H⟩→C (.fn f) [.ptr (.stk q) 0] ⟨S,H⟩ K
theorem RNext_spec {C:CallW} (P:Program):∀(q:Nat) (room now:Int) (v:AV) (L:List (Int×Int)) S H (K:AV→St→Prop),S[q]? = some (refC room now v)→RlV v L→K (.tup [.s (.int .i64 ((L.map Prod.snd).headD 0)),.s (.bool (!L.isEmpty))]) ⟨S,H⟩→runL C P Cz1b [.ptr (.stk q) 0] ⟨S,H⟩ K:=by
  intro q room now v L S H K hS hv hK
  rcases ref_l2 hS hv with ⟨rfl,ld⟩ | ld
  · simp only [Cz1b,A_,simprocAttr,ne_eq,Uz2c.1,CHK_,Nat.reduceBEq,ld]
    exact hK
  · cases L with
    | nil =>
      simp only [Cz1b,A_,simprocAttr,ne_eq,Uz2c.1,CHK_,Nat.reduceBEq,ld]
      exact hK
    | cons x L =>
      have z:(((L.length + 1:Nat):Int)=0)=False:=eq_false (by omega)
      have x0:∀k:IntKind,indexAddrL (.sl 2) (.list .sh 2 (dA x :: L.map dA)) (.s (.int k 0))=some (.rop [.s (.int .i64 x.1),.s (.int .i64 x.2)]):=fun k=>ixl_d (l:=x :: L) (i:=0) (by simp) k
      simp only [Cz1b,A_,simprocAttr,ne_eq,Uz2c.1,CHK_,Nat.reduceBEq,ld,z,x0]
      exact hK
def RCancS (C:CallW) (f:FuncId):Prop:=∀(q:Nat) (room now:Int) (v:AV) (L:List (Int×Int)) (id:Int) S H (K:AV→St→Prop),S[q]? = some (refC room now v)→RlV v L→L.length≤1000000→(∀v',RlV v' (delW L id)→K (.s (.bool (decide ((delW L id).length < L.length)))) ⟨S.set q (refC room now v'),H⟩)→C (.fn f) [.ptr (.stk q) 0,.s (.int .i64 id)] ⟨S,H⟩ K
set_option maxHeartbeats 8000000 in
theorem RCancel_spec {C:CallW} (hC:LeC C C) (P:Program):∀(q:Nat) (room now:Int) (v:AV) (L:List (Int×Int)) (id:Int) S H (K:AV→St→Prop),S[q]? = some (refC room now v)→RlV v L→L.length≤1000000→(∀v',RlV v' (delW L id)→K (.s (.bool (decide ((delW L id).length < L.length)))) ⟨S.set q (refC room now v'),H⟩)→runL C P Czr [.ptr (.stk q) 0,.s (.int .i64 id)] ⟨S,H⟩ K:=by
  intro q room now v L id S H K hS hv hl hK
  have hq:=slt hS
  have hst:∀(w:AV),w.cells=[w]→w.fit=true→AV.under q w=true→∀H',storeL 1 (.ptr (.stk q) 2) w ⟨S,H'⟩=some ⟨S.set q (refC room now w),H'⟩:=fun w h2 h3 h4 H'=>ref_s2 hS h2 h3 h4 H'
  rcases ref_l2 hS hv with ⟨rfl,ld⟩ | ld
  · have st:=hst (.s .nilS) rfl rfl rfl
    have hK:=hK (.s .nilS) (.inl ⟨rfl,rfl⟩)
    simp only [Czr,A_,simprocAttr,ne_eq,Uzu.1]
    refine loop_ruleS hC (α:=Unit) (fun _=>0) (fun _=>[.ptr (.stk q) 0,.s (.int .i64 id),uu,uu,uu,.s .nilS,.s (.int .i64 0),uu,uu,uu,uu,uu,uu,uu,uu,uu,uu,uu,uu,uu,uu,uu,uu,uu,uu,uu,uu,uu,uu,uu,uu,uu,uu,uu,uu,uu,uu,uu,uu,uu,uu,uu,uu,uu,uu,uu,uu,uu,uu,uu]) (fun _=>True) () trivial (by simp [keep,zm]) (by rw [List.take_of_length_le (Nat.le_refl _)]) (fun a _=>by simp [AV.under,AV.under.go,hq]) ?_
    rintro _ _ ih
    have z:((0:Int) < 0)=False:=eq_false (by omega)
    simp only [Czr,A_,simprocAttr,ne_eq,Uzu.1,ld,z,st]
    exact hK
  · simp only [Czr,A_,simprocAttr,ne_eq,Uzu.1]
    refine loop_ruleS hC (α:=Nat) (fun a=>L.length - a) (fun a=>[.ptr (.stk q) 0,.s (.int .i64 id),uu,uu,uu,slG 2 ((delW (L.take a) id).map dA),.s (.int .i64 (a:Nat)),uu,uu,uu,uu,uu,uu,uu,uu,uu,uu,uu,uu,uu,uu,uu,uu,uu,uu,uu,uu,uu,uu,uu,uu,uu,uu,uu,uu,uu,uu,uu,uu,uu,uu,uu,uu,uu,uu,uu,uu,uu,uu,uu]) (fun a=>a≤L.length) 0 (Nat.zero_le _) (by simp [keep,zm,delW,slG_nil]) (by rw [List.take_of_length_le (Nat.le_refl _)]) (fun a _=>by simp [AV.under,AV.under.go,hq,slG_under]) ?_
    intro i hi ih
    have hXl:(delW (L.take i) id).length≤1000000:=by
      have:=delW_len (l:=L.take i) (id:=id)
      rw [List.length_take] at this
      omega
    by_cases h16:i < L.length
    · have hlt:((i:Int) < (L.length:Int)):=by omega
      have hw:=wrap_succ (i:=i) (by omega)
      have x1:=ixl_d h16
      have htk:L.take (i + 1)=L.take i ++ [L[i]]:=List.take_succ_eq_append_getElem h16
      have ih1:=ih (i + 1)
      rw [htk,delW_snoc] at ih1
      generalize L[i]=p at *
      by_cases hx:p.1=id
      · have hx':(p.1=id)=True:=eq_true hx
        rw [if_pos hx,List.append_nil] at ih1
        simp only [Czr,A_,simprocAttr,ne_eq,Uzu.1,ld,hlt,x1,hx',hw]
        exact ih1 _ _ _ (by omega) (by omega) (by simp [keep,zm]) (by rw [List.take_of_length_le (Nat.le_refl _)]) rfl
      · have hx':(p.1=id)=False:=eq_false hx
        rw [if_neg hx] at ih1
        have ha:∀(e:ET) (σ:St),e.c=2→e.bytes=16→appendL e false (slG 2 ((delW (L.take i) id).map dA)) (.list .full 2 [dA p]) σ=some (slG 2 ((delW (L.take i) id ++ [p]).map dA),σ):=fun e σ h1 h2=>by
          have:=app_slG (e:=e) (es:=(delW (L.take i) id).map dA) (a:=dA p) (σ:=σ) rfl (by rw [List.length_map,h2]; omega)
          rw [h1] at this
          rw [this,List.map_append]; rfl
        simp only [dA,dAc] at ha
        generalize delW (L.take i) id=X at *
        by_cases hz:X=[]
        · subst hz
          simp only [List.map_nil,slG_nil] at ha ⊢
          simp only [Czr,A_,simprocAttr,ne_eq,Uzu.1,ld,hlt,x1,hx',hw,ha,bslL,fillE,List.isEmpty_cons,List.isEmpty_nil]
          exact ih1 _ _ _ (by omega) (by omega) (by simp [keep,zm]) (by rw [List.take_of_length_le (Nat.le_refl _)]) rfl
        · obtain ⟨es3,he3⟩:∃es3,slG 2 (X.map dA) = .list .uniq 2 es3:=⟨_,if_neg (by simpa using hz)⟩
          rw [he3] at ha ⊢
          simp only [Czr,A_,simprocAttr,ne_eq,Uzu.1,ld,hlt,x1,hx',hw,ha,bslL,fillE,List.isEmpty_cons,List.isEmpty_nil]
          exact ih1 _ _ _ (by omega) (by omega) (by simp [keep,zm]) (by rw [List.take_of_length_le (Nat.le_refl _)]) rfl
    · have hlt:¬((i:Int) < (L.length:Int)):=by omega
      have hi':i=L.length:=by omega
      subst hi'
      rw [List.take_length] at hXl ⊢
      by_cases hz:delW L id=[]
      · rw [hz]
        simp only [List.map_nil,slG_nil]
        have hK:=hK (.s .nilS) (.inl ⟨rfl,hz⟩)
        rw [hz] at hK
        have st:=hst (.s .nilS) rfl rfl rfl
        simp only [Czr,A_,simprocAttr,ne_eq,Uzu.1,ld,hlt,st]
        simpa using hK
      · have hz2:slG 2 ((delW L id).map dA) = .list .uniq 2 ((delW L id).map dA):=if_neg (by simpa using hz)
        rw [hz2]
        have hK:=hK (.list .sh 2 ((delW L id).map dA)) (.inr (.inr rfl))
        have st:=hst (.list .sh 2 ((delW L id).map dA)) rfl rfl rfl
        simp only [Czr,A_,simprocAttr,ne_eq,Uzu.1,ld,hlt,st]
        simpa using hK
end Go.AM
namespace Go.AM
open Go
open AV renaming undef → uu
set_option maxRecDepth 20000
def upTo (to:Int) (p:Int×Int):Bool:=decide (p.2≤to)
def RAdvS (C:CallW) (f:FuncId):Prop:=∀(q:Nat) (room now:Int) (v:AV) (L:List (Int×Int)) (to:Int) S H (K:AV→St→Prop),S[q]? = some (refC room now v)→RlV v L→L.length≤1000→(to < now→K (lstZ []) ⟨S,H⟩)→(now≤to→∀v',RlV v' (L.dropWhile (upTo to))→K (lstZ ((L.takeWhile (upTo to)).map Prod.fst)) ⟨S.set q (refC room to v'),H⟩)→C (.fn f) [.ptr (.stk q) 0,.s (.int .i64 to)] ⟨S,H⟩ K
set_option maxHeartbeats 8000000 in
theorem RAdvance_spec {C:CallW} (hC:LeC C C) (P:Program):∀(q:Nat) (room now:Int) (v:AV) (L:List (Int×Int)) (to:Int) S H (K:AV→St→Prop),S[q]? = some (refC room now v)→RlV v L→L.length≤1000→(to < now→K (lstZ []) ⟨S,H⟩)→(now≤to→∀v',RlV v' (L.dropWhile (upTo to))→K (lstZ ((L.takeWhile (upTo to)).map Prod.fst)) ⟨S.set q (refC room to v'),H⟩)→runL C P Czj [.ptr (.stk q) 0,.s (.int .i64 to)] ⟨S,H⟩ (WkK K):=by
  intro q room now v L to S H K hS hv hl hlow hK
  have hq:=slt hS
  have l1:=ref_l1 hS
  by_cases hto:to < now
  · simp only [Czj,A_,simprocAttr,ne_eq,Uzo.1,l1,hto]
    exact ⟨_,.inr (.nilS (by omega) .nil),hlow hto⟩
  have hK:=hK (by omega)
  clear hlow
  have st:=ref_s1 hS (now':=to)
  simp only [Czj,A_,simprocAttr,ne_eq,Uzo.1,l1,hto,st]
  refine loop_rule hC (α:=List Int×List (Int×Int)×AV) (fun a=>a.2.1.length) (fun a=>[.ptr (.stk q) 0,.s (.int .i64 to),uu,uu,uu,slZ a.1,uu,uu,uu,uu,uu,uu,uu,uu,uu,uu,uu,uu,uu,uu,uu,uu,uu,uu,uu,uu,uu,uu,uu,uu,uu,uu,uu,uu,uu,uu,uu,uu,uu,uu,uu,uu,uu,uu,uu,uu,uu,uu,uu,uu,uu,uu]) (fun a=>S.set q (refC room to a.2.2)) (fun _=>H) (fun a=>RlV a.2.2 a.2.1∧a.1.length + a.2.1.length=L.length∧(L.takeWhile (upTo to)).map Prod.fst=a.1 ++ (a.2.1.takeWhile (upTo to)).map Prod.fst∧L.dropWhile (upTo to)=a.2.1.dropWhile (upTo to)) ([],L,v) ⟨hv,by simp,by simp,rfl⟩ (by simp [keep,zm,slZ_nil]) (by rw [List.take_of_length_le (by simp)]) rfl (fun a _=>by simp [AV.under,AV.under.go,hq,slZ_under]) ?_
  rintro ⟨acc,R,w⟩ ⟨hw,hlen,htw,hdw⟩ ih
  dsimp only at hw hlen htw hdw ih ⊢
  have hS2:(S.set q (refC room to w))[q]? = some (refC room to w):=sset hS
  have fin_:(R.takeWhile (upTo to))=[]→R.dropWhile (upTo to)=R→∀H',H'=H→WkK K (slZ acc) ⟨S.set q (refC room to w),H'⟩:=by
    rintro e1 e2 _ rfl
    rw [e1,List.map_nil,List.append_nil] at htw
    rw [e2] at hdw
    rw [htw,hdw] at hK
    have:=hK w hw
    by_cases hz:acc=[]
    · subst hz; exact ⟨_,.inr (.nilS (by omega) .nil),this⟩
    · unfold slZ; rw [if_neg hz]; exact ⟨_,.inr (.full .nil),this⟩
  rcases ref_l2 hS2 hw with ⟨rfl,ld⟩ | ld
  · have z:((0:Int) < 0)=False:=eq_false (by omega)
    have f:=fin_ rfl rfl _ rfl
    by_cases hz:acc=[]
    · subst hz
      simp only [slZ_nil] at f ⊢
      simp only [Czj,A_,simprocAttr,ne_eq,Uzo.1,ld,z]
      exact f
    · obtain ⟨es3,he3⟩:∃es3,slZ acc = .list .uniq 1 es3:=⟨_,if_neg hz⟩
      rw [he3] at f ⊢
      simp only [Czj,A_,simprocAttr,ne_eq,Uzo.1,ld,z]
      exact f
  · cases R with
    | nil =>
      have z:((0:Int) < 0)=False:=eq_false (by omega)
      have f:=fin_ rfl rfl _ rfl
      by_cases hz:acc=[]
      · subst hz
        simp only [slZ_nil] at f ⊢
        simp only [Czj,A_,simprocAttr,ne_eq,Uzo.1,ld,z]
        exact f
      · obtain ⟨es3,he3⟩:∃es3,slZ acc = .list .uniq 1 es3:=⟨_,if_neg hz⟩
        rw [he3] at f ⊢
        simp only [Czj,A_,simprocAttr,ne_eq,Uzo.1,ld,z]
        exact f
    | cons x R =>
      have z:((0:Int) < ((R.length + 1:Nat):Int)):=by omega
      have x0:∀k:IntKind,indexAddrL (.sl 2) (.list .sh 2 (dA x :: R.map dA)) (.s (.int k 0))=some (.rop [.s (.int .i64 x.1),.s (.int .i64 x.2)]):=fun k=>ixl_d (l:=x :: R) (i:=0) (by simp) k
      by_cases hx:x.2≤to
      · have hup:upTo to x=true:=decide_eq_true hx
        have ha:∀(e:ET) (σ:St),e.c=1→e.bytes=8→appendL e false (slZ acc) (.list .full 1 [.s (.int .i64 x.1)]) σ=some (slZ (acc ++ [x.1]),σ):=fun e σ h1 h2=>by rw [slZ_snoc]; exact app_slZ h1 h2 (by omega)
        have s1:∀k:IntKind,sliceL (.sl 2) (.list .sh 2 (dA x :: R.map dA)) (some (.s (.int k 1))) none none=some (.list .sh 2 (R.map dA)):=fun k=>by
          have:=slc_lo (c:=2) (es:=dA x :: R.map dA) (n:=1) (k:=k) (by simp)
          exact this
        have st2:=ref_s2 hS2 (w := .list .sh 2 (R.map dA)) rfl rfl rfl
        simp only [List.set_set] at st2
        have ih1:=ih (acc ++ [x.1],R,.list .sh 2 (R.map dA))
        dsimp only at ih1
        have hinv:RlV (.list .sh 2 (R.map dA)) R∧(acc ++ [x.1]).length + R.length=L.length∧(L.takeWhile (upTo to)).map Prod.fst=(acc ++ [x.1]) ++ (R.takeWhile (upTo to)).map Prod.fst∧L.dropWhile (upTo to)=R.dropWhile (upTo to):=by
          refine ⟨.inr (.inr rfl),by simp at hlen ⊢; omega,?_,?_⟩
          · rw [htw,List.takeWhile_cons,if_pos hup]; simp
          · rw [hdw,List.dropWhile_cons,if_pos hup]
        by_cases hz:acc=[]
        · rw [hz] at ha hinv ih1 ⊢
          simp only [slZ_nil] at ha ⊢
          simp only [Czj,A_,simprocAttr,ne_eq,Uzo.1,ld,z,x0,hx,ha,s1,st2,bslL,fillE,List.isEmpty_cons,List.isEmpty_nil]
          exact ih1 _ _ _ (by simp) hinv (by simp [keep,zm]) (by rw [List.take_of_length_le (by simp)]) rfl
        · obtain ⟨es3,he3⟩:∃es3,slZ acc = .list .uniq 1 es3:=⟨_,if_neg hz⟩
          rw [he3] at ha ⊢
          simp only [Czj,A_,simprocAttr,ne_eq,Uzo.1,ld,z,x0,hx,ha,s1,st2,bslL,fillE,List.isEmpty_cons,List.isEmpty_nil]
          exact ih1 _ _ _ (by simp) hinv (by simp [keep,zm]) (by rw [List.take_of_length_le (by simp)]) rfl
      · have hup:upTo to x=false:=decide_eq_false hx
        have f:=fin_ (by rw [List.takeWhile_cons,if_neg (by simp [hup])]) (by rw [List.dropWhile_cons,if_neg (by simp [hup])]) _ rfl
        by_cases hz:acc=[]
        · subst hz
          simp only [slZ_nil] at f ⊢
          simp only [Czj,A_,simprocAttr,ne_eq,Uzo.1,ld,z,x0,hx]
          exact f
        · obtain ⟨es3,he3⟩:∃es3,slZ acc = .list .uniq 1 es3:=⟨_,if_neg hz⟩
          rw [he3] at f ⊢
          simp only [Czj,A_,simprocAttr,ne_eq,Uzo.1,ld,z,x0,hx]
          exact f
end Go.AM
namespace Go.AM
open Go
open AV renaming undef → uu
set_option maxRecDepth 20000
def befX (x y:Int×Int):Bool:=decide (y.2 < x.2∨(y.2=x.2∧y.1 < x.1))
def insX (M:List (Int×Int)) (x:Int×Int):Nat:=(M.takeWhile (befX x)).length
theorem insX_step {M:List (Int×Int)} {x:Int×Int} {i:Nat} (h:i < M.length) (hinv:insX M x=i + insX (M.drop i) x):insX M x=if befX x M[i]=true then i + 1 + insX (M.drop (i + 1)) x else i:=by
  rw [hinv,List.drop_eq_getElem_cons h]
  unfold insX
  by_cases h2:befX x M[i]=true
  · rw [if_pos h2,List.takeWhile_cons,if_pos h2,List.length_cons]; omega
  · rw [if_neg h2,List.takeWhile_cons,if_neg h2]; rfl
def insW (M:List (Int×Int)) (x:Int×Int):List (Int×Int):=M.take (insX M x) ++ [x] ++ M.drop (insX M x)
def setR (room now:Int) (L:List (Int×Int)) (id at_:Int):Int×List (Int×Int):=if at_≤now then (10,L) else if room≤((delW L id).length:Int) then (6,L) else (0,insW (delW L id) (id,at_))
def RSetS (C:CallW) (f:FuncId):Prop:=∀(q:Nat) (room now:Int) (v:AV) (L:List (Int×Int)) (id at_:Int) S H (K:AV→St→Prop),S[q]? = some (refC room now v)→RlV v L→L.length≤1000→(∀v',RlV v' (setR room now L id at_).2→K (.s (.int .i64 (setR room now L id at_).1)) ⟨S.set q (refC room now v'),H⟩)→C (.fn f) [.ptr (.stk q) 0,.s (.int .i64 id),.s (.int .i64 at_)] ⟨S,H⟩ K
set_option maxHeartbeats 16000000 in
theorem RSet_tail {C:CallW} (hC:LeC C C) (P:Program) {c:Nat→FuncId} {q:Nat} {room now id at_:Int} {v:AV} {S:List (List AV)} {H:List HObj} {K:AV→St→Prop} (hS:S[q]? = some (refC room now v)) (hq:q < S.length):∀(M:List (Int×Int)) (v1:AV) (fr:Fr),RlV v1 M→M.length≤1000→keep (zm false [0,3,6,1,104]) fr=[.ptr (.stk q) 0,.s (.int .i64 id),.s (.int .i64 at_),uu,uu,uu,uu,uu,uu,.s (.int .i64 0),uu,uu,uu,uu,uu,uu,uu,uu,uu,uu,uu,uu,uu,uu,uu,uu,uu,uu,uu,uu,uu,uu,uu,uu,uu,uu,uu,uu,uu,uu,uu,uu,uu,uu,uu,uu,uu,uu,uu,uu,uu,uu,uu,uu,uu,uu,uu,uu,uu,uu,uu,uu,uu,uu,uu,uu,uu,uu,uu,uu,uu,uu,uu,uu,uu,uu,uu,uu,uu,uu,uu,uu,uu,uu,uu,uu,uu,uu,uu,uu,uu,uu,uu,uu,uu,uu,uu,uu,uu,uu,uu,uu,uu,uu,uu,uu,uu,uu,uu,uu,uu,uu,uu,uu]→(∀v',RlV v' (insW M (id,at_))→K (.s (.int .i64 0)) ⟨S.set q (refC room now v'),H⟩)→runLp C P false (zm false [0,3,6,1,104]) (y24k7 c) S.length [.blk 2,.c (y24k8 c)] fr ⟨S.set q (refC room now v1),H⟩ (fin S.length [.t 6] K):=by
  intro M v1 fr hv1 hMl hfr hk
  have hS2:(S.set q (refC room now v1))[q]? = some (refC room now v1):=sset hS
  rcases ref_l2 hS2 hv1 with ⟨rfl,ld⟩ | ld
  · have hk:∀v',RlV v' [(id,at_)]→K (.s (.int .i64 0)) ⟨S.set q (refC room now v'),H⟩:=hk
    have hfin:=hk (.list .own 2 [dA (id,at_)]) (.inr (.inl rfl))
    have st:=ref_s2 hS2 (w := .list .own 2 [dA (id,at_)]) rfl rfl rfl
    simp only [List.set_set] at st
    have p1:∀{et:ET} {σ:St},et.c=2→appendL et false (.list .full 2 []) (.s .nilS) σ=some (.list .full 2 [],σ):=fun q=>app2n q
    have p2:∀{et:ET} {σ:St},et.c=2→et.bytes=16→appendL et false (.list .full 2 []) (.list .full 2 [dA (id,at_)]) σ=some (.list .uniq 2 [dA (id,at_)],σ):=fun q1 q2=>app2b (xs:=[]) (a:=(id,at_)) q1 q2 (by simp)
    have p3:∀{et:ET} {σ:St} {ys:List AV},et.c=2→appendL et false (.list .uniq 2 ys) (.s .nilS) σ=some (.list .uniq 2 ys,σ):=fun q=>app2d q
    have s1:∀k:IntKind,sliceL (.sl 2) (.s .nilS) (some (.s (.int k 0))) none none=some (.s .nilS):=fun k=>slc_nil (by decide)
    have s2:∀k:IntKind,sliceL (.sl 2) (.s .nilS) none (some (.s (.int k 0))) none=some (.s .nilS):=fun k=>slc_nilh (by decide)
    refine loop_ruleS hC (α:=Unit) (fun _=>0) (fun _=>[.ptr (.stk q) 0,.s (.int .i64 id),.s (.int .i64 at_),uu,uu,uu,uu,uu,uu,.s (.int .i64 0),uu,uu,uu,uu,uu,uu,uu,uu,uu,uu,uu,uu,uu,uu,uu,uu,uu,uu,uu,uu,uu,uu,uu,uu,uu,uu,uu,uu,uu,uu,uu,uu,uu,uu,uu,uu,uu,uu,uu,uu,uu,uu,uu,uu,uu,uu,uu,uu,uu,uu,uu,uu,uu,uu,uu,uu,uu,uu,uu,uu,uu,uu,uu,uu,uu,uu,uu,uu,uu,uu,uu,uu,uu,uu,uu,uu,uu,uu,uu,uu,uu,uu,uu,uu,uu,uu,uu,uu,uu,uu,uu,uu,uu,uu,uu,uu,uu,uu,uu,uu,uu,uu,uu,uu]) (fun _=>True) () trivial hfr (by rw [List.take_of_length_le (by simp)]) (fun a _=>by simp [AV.under,AV.under.go,hq]) ?_
    rintro _ _ ih
    have z:((0:Int) < 0)=False:=eq_false (by omega)
    simp only [dA,dAc] at p2 st
    simp only [unfC (y24k6.eq_1 c),unfC (y24k7.eq_1 c),unfC (y24k8.eq_1 c),A_,simprocAttr,ne_eq,CHK_,Nat.reduceBEq,ld,z,p1,p2,p3,s1,s2,st,bslL,fillE,List.isEmpty_cons,List.isEmpty_nil]
    exact hfin
  · have fin8:∀(i:Nat),i≤M.length→insX M (id,at_)=i→∀(x46 x47 x48 x49 x50 x51 x52 x53 x54 x55 x56 x57 x58 x59 x60 x61 x62 x63 x64 x65 x66 x67 x68 x69 x70 x71 x72 x73 x74 x75 x76 x77 x78 x79 x80 x81 x82 x83 x84 x85 x86 x87 x88:AV),runC C P false (y24k8 c) [] [.ptr (.stk q) 0,.s (.int .i64 id),.s (.int .i64 at_),uu,uu,uu,uu,uu,uu,.s (.int .i64 (i:Nat)),uu,uu,uu,uu,uu,uu,uu,uu,uu,uu,uu,uu,uu,uu,uu,uu,uu,uu,uu,uu,uu,uu,uu,uu,uu,uu,uu,uu,uu,uu,uu,uu,uu,uu,uu,uu,x46,x47,x48,x49,x50,x51,x52,x53,x54,x55,x56,x57,x58,x59,x60,x61,x62,x63,x64,x65,x66,x67,x68,x69,x70,x71,x72,x73,x74,x75,x76,x77,x78,x79,x80,x81,x82,x83,x84,x85,x86,x87,x88,uu,uu,uu,uu,uu,uu,uu,uu,uu,uu,uu,uu,uu,uu,uu,uu,uu,uu,uu,uu,uu,uu,uu,uu,uu] ⟨S.set q (refC room now v1),H⟩ (fin S.length [.t 6] K):=by
      intro i hi hins x46 x47 x48 x49 x50 x51 x52 x53 x54 x55 x56 x57 x58 x59 x60 x61 x62 x63 x64 x65 x66 x67 x68 x69 x70 x71 x72 x73 x74 x75 x76 x77 x78 x79 x80 x81 x82 x83 x84 x85 x86 x87 x88
      have hAl:(M.take i).length≤1000:=by rw [List.length_take]; omega
      have hBl:(M.drop i).length≤1000:=by rw [List.length_drop]; omega
      have s1:∀k:IntKind,sliceL (.sl 2) (.list .sh 2 (M.map dA)) none (some (.s (.int k (i:Int)))) none=some (.list .sh 2 ((M.take i).map dA)):=fun k=>by rw [slc_hi (by simp; omega),List.map_take]
      have s2:∀k:IntKind,sliceL (.sl 2) (.list .sh 2 (M.map dA)) (some (.s (.int k (i:Int)))) none none=some (.list .sh 2 ((M.drop i).map dA)):=fun k=>by rw [slc_lo (by simp; omega),List.map_drop]
      have hfin:∀v',RlV v' (M.take i ++ [(id,at_)] ++ M.drop i)→K (.s (.int .i64 0)) ⟨S.set q (refC room now v'),H⟩:=by rw [←hins]; exact hk
      generalize M.take i=A at hfin hAl s1
      generalize M.drop i=B at hfin hBl s2
      obtain ⟨AE,hAE⟩:∃X,A ++ [(id,at_)]=X:=⟨_,rfl⟩
      obtain ⟨N,hN⟩:∃X,AE ++ B=X:=⟨_,rfl⟩
      rw [hAE,hN] at hfin
      have hfin:=hfin (.list .own 2 (N.map dA)) (.inr (.inl rfl))
      have st:=ref_s2 hS2 (w := .list .own 2 (N.map dA)) rfl rfl rfl
      simp only [List.set_set] at st
      have p3:∀{et:ET} {σ:St},et.c=2→et.bytes=16→appendL et false (.list .uniq 2 (AE.map dA)) (.list .sh 2 (B.map dA)) σ=some (.list .uniq 2 (N.map dA),σ):=fun q1 q2=>by rw [←hN]; exact app2c q1 q2 (by rw [←hAE]; simp; omega) hBl
      by_cases hz:A=[]
      · have p1:∀{et:ET} {σ:St},et.c=2→et.bytes=16→appendL et false (.list .full 2 []) (.list .sh 2 (A.map dA)) σ=some (.list .full 2 [],σ):=fun {et σ} q1 q2=>by have:=app2a (e:=et) (σ:=σ) q1 q2 hAl; rw [if_pos hz] at this; exact this
        have p2:∀{et:ET} {σ:St},et.c=2→et.bytes=16→appendL et false (.list .full 2 []) (.list .full 2 [dA (id,at_)]) σ=some (.list .uniq 2 (AE.map dA),σ):=fun {et σ} q1 q2=>by have:=app2b (e:=et) (σ:=σ) (a:=(id,at_)) q1 q2 hAl; rw [if_pos hz,hAE] at this; exact this
        simp only [dA,dAc] at p2
        simp only [unfC (y24k8.eq_1 c),A_,simprocAttr,ne_eq,CHK_,Nat.reduceBEq,ld,p1,p2,p3,s1,s2,st,bslL,fillE,List.isEmpty_cons,List.isEmpty_nil]
        exact hfin
      · have p1:∀{et:ET} {σ:St},et.c=2→et.bytes=16→appendL et false (.list .full 2 []) (.list .sh 2 (A.map dA)) σ=some (.list .uniq 2 (A.map dA),σ):=fun {et σ} q1 q2=>by have:=app2a (e:=et) (σ:=σ) q1 q2 hAl; rw [if_neg hz] at this; exact this
        have p2:∀{et:ET} {σ:St},et.c=2→et.bytes=16→appendL et false (.list .uniq 2 (A.map dA)) (.list .full 2 [dA (id,at_)]) σ=some (.list .uniq 2 (AE.map dA),σ):=fun {et σ} q1 q2=>by have:=app2b (e:=et) (σ:=σ) (a:=(id,at_)) q1 q2 hAl; rw [if_neg hz,hAE] at this; exact this
        simp only [dA,dAc] at p2
        simp only [unfC (y24k8.eq_1 c),A_,simprocAttr,ne_eq,CHK_,Nat.reduceBEq,ld,p1,p2,p3,s1,s2,st,bslL,fillE,List.isEmpty_cons,List.isEmpty_nil]
        exact hfin
    refine loop_ruleS hC (α:=Nat) (fun a=>M.length - a) (fun a=>[.ptr (.stk q) 0,.s (.int .i64 id),.s (.int .i64 at_),uu,uu,uu,uu,uu,uu,.s (.int .i64 (a:Nat)),uu,uu,uu,uu,uu,uu,uu,uu,uu,uu,uu,uu,uu,uu,uu,uu,uu,uu,uu,uu,uu,uu,uu,uu,uu,uu,uu,uu,uu,uu,uu,uu,uu,uu,uu,uu,uu,uu,uu,uu,uu,uu,uu,uu,uu,uu,uu,uu,uu,uu,uu,uu,uu,uu,uu,uu,uu,uu,uu,uu,uu,uu,uu,uu,uu,uu,uu,uu,uu,uu,uu,uu,uu,uu,uu,uu,uu,uu,uu,uu,uu,uu,uu,uu,uu,uu,uu,uu,uu,uu,uu,uu,uu,uu,uu,uu,uu,uu,uu,uu,uu,uu,uu,uu]) (fun a=>a≤M.length∧insX M (id,at_)=a + insX (M.drop a) (id,at_)) 0 ⟨Nat.zero_le _,by simp⟩ hfr (by rw [List.take_of_length_le (by simp)]) (fun a _=>by simp [AV.under,AV.under.go,hq]) ?_
    rintro i ⟨hi,hinv⟩ ih
    by_cases h17:i < M.length
    · have hlt:((i:Int) < (M.length:Int)):=by omega
      have hwi:=wrap_succ (i:=i) (by omega)
      have x1:=ixl_d h17
      have hs:=insX_step h17 hinv
      have hb:befX (id,at_) M[i]=decide (M[i].2 < at_∨(M[i].2=at_∧M[i].1 < id)):=rfl
      rw [hb] at hs
      generalize M[i]=y at *
      by_cases c1:y.2 < at_
      · rw [if_pos (decide_eq_true (.inl c1))] at hs
        simp only [unfC (y24k6.eq_1 c),unfC (y24k7.eq_1 c),A_,simprocAttr,ne_eq,CHK_,Nat.reduceBEq,ld,hlt,x1,c1,hwi]
        exact ih (i + 1) _ _ _ (by omega) ⟨by omega,hs⟩ (by simp [keep,zm]) (by rw [List.take_of_length_le (by simp)]) rfl
      · by_cases c2:y.2=at_
        · have c2':(y.2=at_)=True:=eq_true c2
          by_cases c3:y.1 < id
          · rw [if_pos (decide_eq_true (.inr ⟨c2,c3⟩))] at hs
            simp only [unfC (y24k6.eq_1 c),unfC (y24k7.eq_1 c),A_,simprocAttr,ne_eq,CHK_,Nat.reduceBEq,ld,hlt,x1,c1,c2',c3,hwi]
            exact ih (i + 1) _ _ _ (by omega) ⟨by omega,hs⟩ (by simp [keep,zm]) (by rw [List.take_of_length_le (by simp)]) rfl
          · rw [if_neg (by simp; omega)] at hs
            have hins:insX M (id,at_)=i:=hs
            clear ih
            simp only [unfC (y24k6.eq_1 c),unfC (y24k7.eq_1 c),A_,simprocAttr,ne_eq,CHK_,Nat.reduceBEq,ld,hlt,x1,c1,c2',c3]
            exact fin8 i hi hins _ _ _ _ _ _ _ _ _ _ _ _ _ _ _ _ _ _ _ _ _ _ _ _ _ _ _ _ _ _ _ _ _ _ _ _ _ _ _ _ _ _ _
        · have c2':(y.2=at_)=False:=eq_false c2
          rw [if_neg (by simp; omega)] at hs
          have hins:insX M (id,at_)=i:=hs
          clear ih
          simp only [unfC (y24k6.eq_1 c),unfC (y24k7.eq_1 c),A_,simprocAttr,ne_eq,CHK_,Nat.reduceBEq,ld,hlt,x1,c1,c2']
          exact fin8 i hi hins _ _ _ _ _ _ _ _ _ _ _ _ _ _ _ _ _ _ _ _ _ _ _ _ _ _ _ _ _ _ _ _ _ _ _ _ _ _ _ _ _ _ _
    · have hlt:¬((i:Int) < (M.length:Int)):=by omega
      have hins:insX M (id,at_)=i:=by rw [hinv,List.drop_of_length_le (by omega)]; simp [insX]
      clear ih
      simp only [unfC (y24k6.eq_1 c),unfC (y24k7.eq_1 c),A_,simprocAttr,ne_eq,CHK_,Nat.reduceBEq,ld,hlt]
      exact fin8 i hi hins _ _ _ _ _ _ _ _ _ _ _ _ _ _ _ _ _ _ _ _ _ _ _ _ _ _ _ _ _ _ _ _ _ _ _ _ _ _ _ _ _ _ _
set_option maxHeartbeats 16000000 in
theorem RSet_spec {C:CallW} (hC:LeC C C) (P:Program) {c:Nat→FuncId} (h0:RCancS C (c 0)):∀(q:Nat) (room now:Int) (v:AV) (L:List (Int×Int)) (id at_:Int) S H (K:AV→St→Prop),S[q]? = some (refC room now v)→RlV v L→L.length≤1000→(∀v',RlV v' (setR room now L id at_).2→K (.s (.int .i64 (setR room now L id at_).1)) ⟨S.set q (refC room now v'),H⟩)→runL C P (Czn c) [.ptr (.stk q) 0,.s (.int .i64 id),.s (.int .i64 at_)] ⟨S,H⟩ K:=by
  intro q room now v L id at_ S H K hS hv hl hK
  have hq:=slt hS
  have l0:=ref_l0 hS
  have l1:=ref_l1 hS
  by_cases h1:at_≤now
  · have e:setR room now L id at_=(10,L):=if_pos h1
    rw [e] at hK
    have hK:=hK v hv
    rw [sself hS] at hK
    simp only [Czn,A_,simprocAttr,ne_eq,(Uzs _).1,l1,h1]
    exact hK
  have k6:room≤((delW L id).length:Int)→K (.s (.int .i64 6)) ⟨S,H⟩:=fun h2=>by
    have e:setR room now L id at_=(6,L):=by unfold setR; rw [if_neg h1,if_pos h2]
    rw [e] at hK
    have hK:=hK v hv
    rw [sself hS] at hK
    exact hK
  have k0:¬(room≤((delW L id).length:Int))→∀v',RlV v' (insW (delW L id) (id,at_))→K (.s (.int .i64 0)) ⟨S.set q (refC room now v'),H⟩:=fun h2 v' hv'=>by
    have e:setR room now L id at_=(0,insW (delW L id) (id,at_)):=by unfold setR; rw [if_neg h1,if_neg h2]
    rw [e] at hK
    exact hK v' hv'
  clear hK
  have hMl:(delW L id).length≤1000:=Nat.le_trans delW_len hl
  simp only [Czn,A_,simprocAttr,ne_eq,(Uzs _).1,l1,h1]
  rcases ref_l2 hS hv with ⟨rfl,ld⟩ | ld
  · refine loop_ruleS hC (α:=Unit) (fun _=>0) (fun _=>[.ptr (.stk q) 0,.s (.int .i64 id),.s (.int .i64 at_),uu,uu,uu,uu,.s (.int .i64 0),.s (.int .i64 0),uu,uu,uu,uu,uu,uu,uu,uu,uu,uu,uu,uu,uu,uu,uu,uu,uu,uu,uu,uu,uu,uu,uu,uu,uu,uu,uu,uu,uu,uu,uu,uu,uu,uu,uu,uu,uu,uu,uu,uu,uu,uu,uu,uu,uu,uu,uu,uu,uu,uu,uu,uu,uu,uu,uu,uu,uu,uu,uu,uu,uu,uu,uu,uu,uu,uu,uu,uu,uu,uu,uu,uu,uu,uu,uu,uu,uu,uu,uu,uu,uu,uu,uu,uu,uu,uu,uu,uu,uu,uu,uu,uu,uu,uu,uu,uu,uu,uu,uu,uu,uu,uu,uu,uu,uu]) (fun _=>True) () trivial (by simp [keep,zm]) (by rw [List.take_of_length_le (Nat.le_refl _)]) (fun a _=>by simp [AV.under,AV.under.go,hq]) ?_
    rintro _ _ ih
    have z:((0:Int) < 0)=False:=eq_false (by omega)
    by_cases h2:room≤0
    · have:=k6 h2
      simp only [Czn,A_,simprocAttr,ne_eq,(Uzs _).1,ld,z,l0,h2]
      exact this
    · have k0:=k0 h2
      simp only [Czn,A_,simprocAttr,ne_eq,(Uzs _).1,ld,z,l0,h2]
      refine h0 q room now v [] id _ _ _ hS hv (by simp) fun v1 hv1 => ?_
      simp only [Czn,A_,simprocAttr,ne_eq,(Uzs _).1]
      exact RSet_tail hC P hS hq _ _ _ hv1 hMl (by simp [keep,zm]) k0
  · refine loop_ruleS hC (α:=Nat) (fun a=>L.length - a) (fun a=>[.ptr (.stk q) 0,.s (.int .i64 id),.s (.int .i64 at_),uu,uu,uu,uu,.s (.int .i64 ((delW (L.take a) id).length:Nat)),.s (.int .i64 (a:Nat)),uu,uu,uu,uu,uu,uu,uu,uu,uu,uu,uu,uu,uu,uu,uu,uu,uu,uu,uu,uu,uu,uu,uu,uu,uu,uu,uu,uu,uu,uu,uu,uu,uu,uu,uu,uu,uu,uu,uu,uu,uu,uu,uu,uu,uu,uu,uu,uu,uu,uu,uu,uu,uu,uu,uu,uu,uu,uu,uu,uu,uu,uu,uu,uu,uu,uu,uu,uu,uu,uu,uu,uu,uu,uu,uu,uu,uu,uu,uu,uu,uu,uu,uu,uu,uu,uu,uu,uu,uu,uu,uu,uu,uu,uu,uu,uu,uu,uu,uu,uu,uu,uu,uu,uu,uu]) (fun a=>a≤L.length) 0 (Nat.zero_le _) (by simp [keep,zm,delW]) (by rw [List.take_of_length_le (Nat.le_refl _)]) (fun a _=>by simp [AV.under,AV.under.go,hq]) ?_
    intro i hi ih
    by_cases h16:i < L.length
    · have hlt:((i:Int) < (L.length:Int)):=by omega
      have hw:=wrap_succ (i:=i) (by omega)
      have x1:=ixl_d h16
      have htk:L.take (i + 1)=L.take i ++ [L[i]]:=List.take_succ_eq_append_getElem h16
      have ih1:=ih (i + 1)
      rw [htk,delW_snoc,List.length_append] at ih1
      have hXl:(delW (L.take i) id).length≤1000:=by
        have:=delW_len (l:=L.take i) (id:=id)
        rw [List.length_take] at this
        omega
      generalize L[i]=p at *
      by_cases hx:p.1=id
      · have hx':(p.1=id)=True:=eq_true hx
        rw [if_pos hx,List.length_nil,Nat.add_zero] at ih1
        simp only [Czn,A_,simprocAttr,ne_eq,(Uzs _).1,ld,hlt,x1,hx',hw]
        exact ih1 _ _ _ (by omega) (by omega) (by simp [keep,zm]) (by rw [List.take_of_length_le (Nat.le_refl _)]) rfl
      · have hx':(p.1=id)=False:=eq_false hx
        rw [if_neg hx,List.length_singleton] at ih1
        have hw2:=wrap_succ (i:=(delW (L.take i) id).length) (by omega)
        simp only [Czn,A_,simprocAttr,ne_eq,(Uzs _).1,ld,hlt,x1,hx',hw,hw2]
        exact ih1 _ _ _ (by omega) (by omega) (by simp [keep,zm]) (by rw [List.take_of_length_le (Nat.le_refl _)]) rfl
    · have hlt:¬((i:Int) < (L.length:Int)):=by omega
      have hi':i=L.length:=by omega
      subst hi'
      rw [List.take_length]
      by_cases h2:room≤((delW L id).length:Int)
      · have:=k6 h2
        simp only [Czn,A_,simprocAttr,ne_eq,(Uzs _).1,ld,hlt,l0,h2]
        exact this
      · have k0:=k0 h2
        simp only [Czn,A_,simprocAttr,ne_eq,(Uzs _).1,ld,hlt,l0,h2]
        refine h0 q room now v L id _ _ _ hS hv (by omega) fun v1 hv1 => ?_
        simp only [Czn,A_,simprocAttr,ne_eq,(Uzs _).1]
        exact RSet_tail hC P hS hq _ _ _ hv1 hMl (by simp [keep,zm]) k0
end Go.AM
namespace Go.AM
open Go
set_option maxRecDepth 20000
def befP (a b:Int×Int):Prop:=a.2 < b.2∨(a.2=b.2∧a.1 < b.1)
structure SyncW (l L:List (Int×Int)):Prop where
  perm:L.Perm l
  asc:L.Pairwise befP
theorem befP_trans {a b c:Int×Int} (h1:befP a b) (h2:befP b c):befP a c:=by unfold befP at *; omega
theorem SyncW.nil:SyncW [] []:=⟨.nil,.nil⟩
theorem SyncW.len {l L:List (Int×Int)} (s:SyncW l L):L.length=l.length:=s.perm.length_eq
theorem hasW_iff {l:List (Int×Int)} {id:Int}:hasW l id=true↔∃p∈l,p.1=id:=by
  unfold hasW
  cases hg:getB Prod.fst l id with
  | none =>
    have:=getB_none hg
    exact ⟨fun h=>(by cases h),fun ⟨p,hp,e⟩=>absurd e (this p hp)⟩
  | some q =>
    obtain ⟨q1,q2⟩:=getB_mem hg
    exact ⟨fun _=>⟨q,q1,q2⟩,fun _=>rfl⟩
theorem del_lt {L:List (Int×Int)} {id:Int}:(delW L id).length < L.length↔∃p∈L,p.1=id:=by
  unfold delW
  rw [List.length_filter_lt_length_iff_exists]
  constructor
  · rintro ⟨p,hp,h⟩
    exact ⟨p,hp,by simpa using h⟩
  · rintro ⟨p,hp,h⟩
    exact ⟨p,hp,by simpa using h⟩
theorem SyncW.has {l L:List (Int×Int)} (s:SyncW l L) (id:Int):hasW l id=decide ((delW L id).length < L.length):=by
  have:hasW l id=true↔(delW L id).length < L.length:=by
    rw [hasW_iff,del_lt]
    constructor
    · rintro ⟨p,hp,e⟩; exact ⟨p,s.perm.mem_iff.2 hp,e⟩
    · rintro ⟨p,hp,e⟩; exact ⟨p,s.perm.mem_iff.1 hp,e⟩
  cases h:hasW l id with
  | true=>rw [decide_eq_true (this.1 h)]
  | false=>rw [decide_eq_false fun q=>by rw [this.2 q] at h; cases h]
theorem SyncW.del {l L:List (Int×Int)} (s:SyncW l L) (id:Int):SyncW (delW l id) (delW L id):=⟨s.perm.filter _,s.asc.sublist List.filter_sublist⟩
theorem del_same {l:List (Int×Int)} {id:Int} (h:∀p∈l,p.1≠id):delW l id=l:=List.filter_eq_self.2 fun p hp=>decide_eq_true (h p hp)
theorem put_perm {x:Int×Int}:∀{l:List (Int×Int)},(l.map Prod.fst).Nodup→(putB Prod.fst l x).Perm (x :: delW l x.1):=by
  intro l hn
  unfold putB
  cases hg:getB Prod.fst l x.1 with
  | none =>
    have:=getB_none hg
    rw [del_same this]
    exact (List.perm_append_comm (l₁ := l) (l₂ := [x]))
  | some y =>
    obtain ⟨h1,h2⟩:=getB_mem hg
    have hex:∃p∈l,p.1=x.1:=⟨y,h1,h2⟩
    clear hg h1 h2
    dsimp only
    induction l with
    | nil=>obtain ⟨p,hp,_⟩:=hex; cases hp
    | cons z l ih =>
      rw [List.map_cons,List.nodup_cons] at hn
      rw [List.map_cons]
      by_cases hz:z.1=x.1
      · have hno:∀p∈l,p.1≠x.1:=fun p hp e=>hn.1 (List.mem_map.2 ⟨p,hp,e.trans hz.symm⟩)
        have e1:(l.map fun y=>if y.1=x.1 then x else y)=l:=by
          have:(l.map fun y=>if y.1=x.1 then x else y)=l.map fun y=>y:=List.map_congr_left fun p hp=>if_neg (hno p hp)
          rw [this]; simp
        have e2:delW (z :: l) x.1=l:=by
          unfold delW
          rw [List.filter_cons,if_neg (by simp [hz])]
          exact del_same hno
        rw [if_pos hz,e1,e2]
      · have e2:delW (z :: l) x.1=z :: delW l x.1:=by
          unfold delW
          rw [List.filter_cons,if_pos (by simp [hz])]
        rw [if_neg hz,e2]
        have hex2:∃p∈l,p.1=x.1:=by
          obtain ⟨p,hp,e⟩:=hex
          rcases List.mem_cons.1 hp with rfl | hp
          · exact absurd e hz
          · exact ⟨p,hp,e⟩
        exact ((ih hn.2 hex2).cons z).trans (List.Perm.swap _ _ _)
theorem ins_eq (M:List (Int×Int)) (x:Int×Int):insW M x=M.takeWhile (befX x) ++ x :: M.dropWhile (befX x):=by
  unfold insW insX
  have h1:M.take (M.takeWhile (befX x)).length=M.takeWhile (befX x):=by
    conv=>lhs; arg 2; rw [←List.takeWhile_append_dropWhile (p:=befX x) (l:=M)]
    rw [List.take_left']; rfl
  have h2:M.drop (M.takeWhile (befX x)).length=M.dropWhile (befX x):=by
    conv=>lhs; arg 2; rw [←List.takeWhile_append_dropWhile (p:=befX x) (l:=M)]
    rw [List.drop_left']; rfl
  rw [h1,h2]; simp
theorem ins_perm (M:List (Int×Int)) (x:Int×Int):(insW M x).Perm (x :: M):=by
  rw [ins_eq]
  refine List.perm_middle.trans ?_
  rw [List.takeWhile_append_dropWhile]
theorem mem_tw {p:Int×Int→Bool}:∀{M:List (Int×Int)} {y:Int×Int},y∈M.takeWhile p→p y=true
  | z :: M,y,h=>by
    rw [List.takeWhile_cons] at h
    split at h
    · rename_i hz
      rcases List.mem_cons.1 h with rfl | h
      · exact hz
      · exact mem_tw h
    · cases h
theorem ins_asc {M:List (Int×Int)} {x:Int×Int} (hs:M.Pairwise befP) (hx:∀p∈M,p.1≠x.1):(insW M x).Pairwise befP:=by
  rw [ins_eq]
  have hd:∀y∈M.dropWhile (befX x),befP x y:=by
    induction M with
    | nil=>intro y h; cases h
    | cons z M ih =>
      obtain ⟨h1,h2⟩:=List.pairwise_cons.1 hs
      rw [List.dropWhile_cons]
      split
      · exact ih h2 fun p hp=>hx p (List.mem_cons_of_mem _ hp)
      · rename_i hz
        have hzx:befP x z:=by
          have hz:¬(z.2 < x.2∨(z.2=x.2∧z.1 < x.1)):=fun q=>hz (decide_eq_true q)
          have:=hx z List.mem_cons_self
          unfold befP; omega
        intro y hy
        rcases List.mem_cons.1 hy with rfl | hy
        · exact hzx
        · exact befP_trans hzx (h1 y hy)
  have ht:∀y∈M.takeWhile (befX x),befP y x:=fun y hy=>by have:=mem_tw hy; unfold befX at this; have:=of_decide_eq_true this; exact this
  rw [List.pairwise_append]
  refine ⟨hs.sublist (List.takeWhile_sublist _),List.pairwise_cons.2 ⟨hd,hs.sublist (List.dropWhile_sublist _)⟩,fun a ha b hb => ?_⟩
  rcases List.mem_cons.1 hb with rfl | hb
  · exact ht a ha
  · exact befP_trans (ht a ha) (hd b hb)
theorem SyncW.set {l L:List (Int×Int)} (s:SyncW l L) (hn:(l.map Prod.fst).Nodup) {room now id at_:Int} (hr:(l.length:Int)≤room):(setW room now l id at_).1=(setR room now L id at_).1∧SyncW (setW room now l id at_).2 (setR room now L id at_).2:=by
  have hh:=s.has id
  have hlen:=s.len
  unfold setW setR
  by_cases h1:at_≤now
  · rw [if_pos h1,if_pos h1]; exact ⟨rfl,s⟩
  rw [if_neg h1,if_neg h1]
  have hiff:(hasW l id=false∧room≤(l.length:Int))↔room≤((delW L id).length:Int):=by
    have hle:=delW_len (l:=L) (id:=id)
    rw [hh]
    by_cases h2:(delW L id).length < L.length
    · rw [decide_eq_true h2]
      exact ⟨fun q=>(by have:=q.1; cases this),fun q=>(by omega)⟩
    · rw [decide_eq_false h2]
      exact ⟨fun q=>by have:=q.2; omega,fun q=>⟨rfl,by omega⟩⟩
  by_cases h2:hasW l id=false∧room≤(l.length:Int)
  · rw [if_pos h2,if_pos (hiff.1 h2)]; exact ⟨rfl,s⟩
  · rw [if_neg h2,if_neg fun q=>h2 (hiff.2 q)]
    refine ⟨rfl,?_,ins_asc (s.del id).asc fun p hp => ?_⟩
    · exact (ins_perm _ _).trans (((s.del id).perm.cons _).trans (put_perm hn).symm)
    · have:=(List.mem_filter.1 hp).2
      exact of_decide_eq_true this
theorem tw_filter {to:Int}:∀{L:List (Int×Int)},L.Pairwise befP→L.takeWhile (upTo to)=L.filter (fun p=>decide (p.2≤to))∧L.dropWhile (upTo to)=L.filter fun p=>decide (to < p.2)
  | [],_=>⟨rfl,rfl⟩
  | x :: L,h=>by
    obtain ⟨h1,h2⟩:=List.pairwise_cons.1 h
    obtain ⟨i1,i2⟩:=tw_filter (to:=to) h2
    rw [List.takeWhile_cons,List.dropWhile_cons,List.filter_cons,List.filter_cons]
    by_cases hx:x.2≤to
    · have hu:upTo to x=true:=decide_eq_true hx
      rw [if_pos hu,if_pos hu,if_pos (decide_eq_true hx),if_neg (by simp; omega),i1,i2]
      exact ⟨rfl,rfl⟩
    · have hu:upTo to x=false:=decide_eq_false hx
      have hlate:∀p∈L,to < p.2:=fun p hp=>by have:=h1 p hp; unfold befP at this; omega
      have hx2:to < x.2:=by omega
      simp only [hu,hx,hx2,decide_true,decide_false,Bool.false_eq_true,if_true,if_false]
      refine ⟨?_,?_⟩
      · rw [List.filter_eq_nil_iff.2 fun p hp q=>by have:=hlate p hp; have:=of_decide_eq_true q; omega]
      · rw [List.filter_eq_self.2 fun p hp=>decide_eq_true (hlate p hp)]
theorem SyncW.adv {l L:List (Int×Int)} (s:SyncW l L) (hn:(l.map Prod.fst).Nodup) {to:Int} {ids:List Int} (hp:ids.Perm ((l.filter fun p=>decide (p.2≤to)).map Prod.fst)) (hs:ids.Pairwise (befW l)):ids=(L.takeWhile (upTo to)).map Prod.fst∧SyncW (l.filter fun p=>decide (to < p.2)) (L.dropWhile (upTo to)):=by
  obtain ⟨e1,e2⟩:=tw_filter (to:=to) s.asc
  constructor
  · refine ids_eqW (hp.trans ?_) hs ?_
    · rw [e1]
      exact ((s.perm.filter _).map _).symm
    · rw [List.pairwise_map]
      refine (s.asc.sublist (List.takeWhile_sublist _)).imp_of_mem fun {a b} ha hb hab => ?_
      have ha:=s.perm.mem_iff.1 ((List.takeWhile_sublist _).subset ha)
      have hb:=s.perm.mem_iff.1 ((List.takeWhile_sublist _).subset hb)
      unfold befW
      rw [due_mem hn ha,due_mem hn hb]
      exact hab
  · rw [e2]
    exact ⟨s.perm.filter _,s.asc.sublist List.filter_sublist⟩
theorem SyncW.next {l L:List (Int×Int)} (s:SyncW l L) {ids:List Int} (hp:ids.Perm (l.map Prod.snd)) (hs:ids.Pairwise (·≤·)):ids=L.map Prod.snd:=by
  refine ids_eq (hp.trans (s.perm.map _).symm) hs ?_
  rw [List.pairwise_map]
  exact s.asc.imp fun {a b} h=>by unfold befP at h; omega
end Go.AM
namespace Go.AM
open Go
open AV renaming undef → uu
set_option maxRecDepth 20000
structure WAct where
  op:Int
  id:Int
  at_:Int
def wacc (a:WAct):List AV:=[.s (.int .i64 a.op),.s (.int .i64 a.id),.s (.int .i64 a.at_)]
def wacA (a:WAct):AV := .agg (wacc a)
theorem ixl_wac {l:List WAct} {i:Nat} (h:i < l.length) (k:IntKind):indexAddrL (.sl 3) (.list .sh 3 (l.map wacA)) (.s (.int k (i:Int)))=some (.rop [.s (.int .i64 l[i].op),.s (.int .i64 l[i].id),.s (.int .i64 l[i].at_)]):=ixl_map h (by omega)
structure PA where
  i:Nat
  H:List HObj
  l:List (Int×Int)
  L:List (Int×Int)
  now:Int
  v:AV
set_option maxHeartbeats 32000000 in
theorem WheelPlays_spec {C:CallW} (hC:LeC C C) (P:Program) {c:Nat→FuncId} (h0:AwWS C (c 0)) (h1:NewWS C (c 1)) (h2:SetWS C (c 2)) (h3:RSetS C (c 3)) (h4:CancS C (c 4)) (h5:RCancS C (c 5)) (h6:AdvS C (c 6)) (h7:RAdvS C (c 7)) (h8:SameIS C (c 8)) (h9:WNextS C (c 9)) (h10:RNextS C (c 10)) (h11:WLenS C (c 11)) (h12:RLenS C (c 12)) (h13:WNowS C (c 13)):∀(room:Int) (l:List WAct) S H (K:AV→St→Prop),l.length≤9223372036854775807→(∀H',K (.bool true) ⟨S,H'⟩)→runL C P (Cz2 c) [.s (.int .i64 room),.list .sh 3 (l.map wacA)] ⟨S,H⟩ K:=by
  intro room l S H K hl hK
  simp only [Cz2,A_,simprocAttr,ne_eq,(Uz5 _).1]
  refine h0 _ _ _ fun H1 => ?_
  simp only [Cz2,A_,simprocAttr,ne_eq,(Uz5 _).1]
  refine h1 room _ _ _ (fun q => ?_) fun r1 r2 t => ?_
  · by_cases q1:room < 1
    · simp only [Cz2,A_,simprocAttr,ne_eq,(Uz5 _).1,q1,reP0]
      exact hK _
    · have q2:1000 < room:=by omega
      simp only [Cz2,A_,simprocAttr,ne_eq,(Uz5 _).1,q1,q2,reP0]
      exact hK _
  have q1:¬(room < 1):=by omega
  have q2:¬(1000 < room):=by omega
  generalize H1 ++ [HObj.map [] 0,.cells (wlc room 0 H1.length)]=H0 at t ⊢
  generalize H1.length + 1=h at t ⊢
  generalize H1.length=hm at t
  by_cases h100:100 < l.length
  · have e1:((100:Int) < (l.length:Int))=True:=eq_true (by omega)
    simp only [Cz2,A_,simprocAttr,ne_eq,(Uz5 _).1,q1,q2,e1]
    exact hK _
  have e1:((100:Int) < (l.length:Int))=False:=eq_false (by omega)
  simp only [Cz2,A_,simprocAttr,ne_eq,(Uz5 _).1,q1,q2,e1]
  refine loop_rule hC (α:=PA) (fun a=>l.length - a.i) (fun a=>[.undef,.list .sh 3 (l.map wacA),uu,uu,uu,.ptr (.heap h) 0,.undef,.ptr (.stk S.length) 0,.s (.int .i64 (a.i:Nat)),uu,uu,uu,uu,uu,uu,uu,uu,uu,uu,uu,uu,uu,uu,uu,uu,uu,uu,uu,uu,uu,uu,uu,uu,uu,uu,uu,uu,uu,uu,uu,uu,uu,uu,uu,uu,uu,uu,uu,uu,uu,uu,uu,uu,uu,uu,uu,uu,uu,uu,uu,uu,uu,uu,uu,uu,uu,uu,uu,uu,uu,uu,uu,uu,uu,uu,uu,uu,uu,uu,uu,uu,uu,uu,uu,uu,uu,uu,uu,uu,uu,uu,uu,uu,uu,uu,uu,uu,uu,uu,uu,uu,uu,uu,uu,uu,uu,uu,uu,uu,uu,uu,uu,uu,uu,uu,uu,uu,uu,uu,uu,uu,uu,uu,uu,uu,uu,uu,uu,uu,uu,uu,uu,uu,uu,uu,uu,uu,uu,uu,uu,uu,uu,uu,uu,uu,uu,uu,uu,uu,uu,uu,uu,uu]) (fun a=>S ++ [refC room a.now a.v]) (fun a=>a.H) (fun a=>a.i≤l.length∧WhX a.H h hm room a.now a.l∧RlV a.v a.L∧SyncW a.l a.L) ⟨0,H0,[],[],0,.s .nilS⟩ ⟨Nat.zero_le _,t,.inl ⟨rfl,rfl⟩,.nil⟩ (by simp [keep,zm]) (by rw [app_take_add]; rfl) rfl (fun a _=>by simp [AV.under,AV.under.go]) ?_
  clear t
  rintro ⟨i,H2,lm,L,now,v⟩ ⟨hi,t,hv,sy⟩ ih
  dsimp only at hi t hv sy ih ⊢
  by_cases hil:i < l.length
  case neg =>
    have hlt:¬((i:Int) < (l.length:Int)):=by omega
    simp only [Cz2,A_,simprocAttr,ne_eq,(Uz5 _).1,hlt]
    exact hK _
  have hlt:((i:Int) < (l.length:Int)):=by omega
  have hw:=wrap_succ (i:=i) (by omega)
  have x1:=ixl_wac hil
  generalize l[i]=a at x1
  have hS:∀n w,(S ++ [refC room n w])[S.length]? = some (refC room n w):=fun n w=>app_get0 _ _
  have hLl:L.length≤1000:=by have:=sy.len; have:=t.len; omega
  by_cases o0:a.op=0
  · have o0':(a.op=0)=True:=eq_true o0
    simp only [Cz2,A_,simprocAttr,ne_eq,(Uz5 _).1,CHK_,Nat.reduceBEq,hlt,x1,o0']
    refine h2 h hm room now lm a.id a.at_ _ _ _ t fun H4 _ t' => ?_
    simp only [Cz2,A_,simprocAttr,ne_eq,(Uz5 _).1,CHK_,Nat.reduceBEq,hlt,x1,o0']
    refine h3 S.length room now v L a.id a.at_ _ _ _ (hS _ _) hv hLl fun v' hv' => ?_
    obtain ⟨e2,s'⟩:=sy.set t.nd t.len (now:=now) (id:=a.id) (at_:=a.at_)
    rw [e2,sapp]
    generalize setW room now lm a.id a.at_=rw_ at t' s' e2
    generalize setR room now L a.id a.at_=rr at hv' s' e2 ⊢
    obtain ⟨w1,lm'⟩:=rw_
    obtain ⟨r1,L'⟩:=rr
    dsimp only at t' hv' s' e2 ⊢
    have z0:(r1=r1)=True:=eq_true rfl
    simp only [Cz2,A_,simprocAttr,ne_eq,(Uz5 _).1,CHK_,Nat.reduceBEq,hlt,x1,z0]
    have hLl2:=s'.len
    have hcmp:=fun ids (hp:ids.Perm (lm'.map Prod.snd)) hs=>s'.next (ids:=ids) hp hs
    refine h9 h hm room now lm' _ _ _ t' fun ids G hp hs => ?_
    rw [hcmp ids hp hs]
    rw [List.isEmpty_map]
    simp only [Cz2,A_,simprocAttr,ne_eq,(Uz5 _).1,CHK_,Nat.reduceBEq,x1]
    refine h10 S.length room now v' L' _ _ _ (hS _ _) hv' ?_
    have z1:((L'.map Prod.snd).headD 0=(L'.map Prod.snd).headD 0)=True:=eq_true rfl
    have z2:((!L'.isEmpty)=(!L'.isEmpty))=True:=eq_true rfl
    generalize (L'.map Prod.snd).headD 0=hd at z1 ⊢
    generalize (!L'.isEmpty)=ne at z2 ⊢
    have ld:=ref_l1 (hS (now) v')
    simp only [Cz2,A_,simprocAttr,ne_eq,(Uz5 _).1,CHK_,Nat.reduceBEq,z1,z2,ld]
    refine h11 h hm room now lm' _ _ _ t'.app ?_
    simp only [Cz2,A_,simprocAttr,ne_eq,(Uz5 _).1,CHK_,Nat.reduceBEq,z1,z2,ld]
    refine h12 S.length room now v' L' _ _ _ (hS _ _) hv' ?_
    rw [hLl2]
    simp only [Cz2,A_,simprocAttr,ne_eq,(Uz5 _).1,CHK_,Nat.reduceBEq,z1,z2,ld]
    refine h13 h hm room now lm' _ _ _ t'.app ?_
    simp only [Cz2,A_,simprocAttr,ne_eq,(Uz5 _).1,CHK_,Nat.reduceBEq,z1,z2,ld,hw]
    exact ih ⟨i + 1,_,lm',L',now,v'⟩ _ _ _ (by dsimp only; omega) ⟨by dsimp only; omega,t'.app,hv',s'⟩ (by simp [keep,zm]) (by rw [app_take_add]; rfl) rfl
  have o0':(a.op=0)=False:=eq_false o0
  by_cases o1:a.op=1
  · have o1':(a.op=1)=True:=eq_true o1
    simp only [Cz2,A_,simprocAttr,ne_eq,(Uz5 _).1,CHK_,Nat.reduceBEq,hlt,x1,o0',o1']
    refine h4 h hm room now lm a.id _ _ _ t fun H4 _ t' => ?_
    simp only [Cz2,A_,simprocAttr,ne_eq,(Uz5 _).1,CHK_,Nat.reduceBEq,hlt,x1,o0',o1']
    refine h5 S.length room now v L a.id _ _ _ (hS _ _) hv (by omega) fun v' hv' => ?_
    rw [sapp,sy.has]
    have s':=sy.del a.id
    have z0:(decide ((delW L a.id).length < L.length)=decide ((delW L a.id).length < L.length))=True:=eq_true rfl
    generalize decide ((delW L a.id).length < L.length)=bb at z0 ⊢
    simp only [Cz2,A_,simprocAttr,ne_eq,(Uz5 _).1,CHK_,Nat.reduceBEq,hlt,x1,z0]
    have hLl2:=s'.len
    have hcmp:=fun ids (hp:ids.Perm ((delW lm a.id).map Prod.snd)) hs=>s'.next (ids:=ids) hp hs
    refine h9 h hm room now (delW lm a.id) _ _ _ t' fun ids G hp hs => ?_
    rw [hcmp ids hp hs]
    rw [List.isEmpty_map]
    simp only [Cz2,A_,simprocAttr,ne_eq,(Uz5 _).1,CHK_,Nat.reduceBEq,x1]
    refine h10 S.length room now v' (delW L a.id) _ _ _ (hS _ _) hv' ?_
    have z1:(((delW L a.id).map Prod.snd).headD 0=((delW L a.id).map Prod.snd).headD 0)=True:=eq_true rfl
    have z2:((!(delW L a.id).isEmpty)=(!(delW L a.id).isEmpty))=True:=eq_true rfl
    generalize ((delW L a.id).map Prod.snd).headD 0=hd at z1 ⊢
    generalize (!(delW L a.id).isEmpty)=ne at z2 ⊢
    have ld:=ref_l1 (hS (now) v')
    simp only [Cz2,A_,simprocAttr,ne_eq,(Uz5 _).1,CHK_,Nat.reduceBEq,z1,z2,ld]
    refine h11 h hm room now (delW lm a.id) _ _ _ t'.app ?_
    simp only [Cz2,A_,simprocAttr,ne_eq,(Uz5 _).1,CHK_,Nat.reduceBEq,z1,z2,ld]
    refine h12 S.length room now v' (delW L a.id) _ _ _ (hS _ _) hv' ?_
    rw [hLl2]
    simp only [Cz2,A_,simprocAttr,ne_eq,(Uz5 _).1,CHK_,Nat.reduceBEq,z1,z2,ld]
    refine h13 h hm room now (delW lm a.id) _ _ _ t'.app ?_
    simp only [Cz2,A_,simprocAttr,ne_eq,(Uz5 _).1,CHK_,Nat.reduceBEq,z1,z2,ld,hw]
    exact ih ⟨i + 1,_,(delW lm a.id),(delW L a.id),now,v'⟩ _ _ _ (by dsimp only; omega) ⟨by dsimp only; omega,t'.app,hv',s'⟩ (by simp [keep,zm]) (by rw [app_take_add]; rfl) rfl
  have o1':(a.op=1)=False:=eq_false o1
  simp only [Cz2,A_,simprocAttr,ne_eq,(Uz5 _).1,CHK_,Nat.reduceBEq,hlt,x1,o0',o1']
  by_cases hto:a.at_ < now
  · refine h6 h hm room now lm a.at_ _ _ _ t (fun _ => ?_) (fun q=>absurd q (by omega))
    simp only [Cz2,A_,simprocAttr,ne_eq,(Uz5 _).1,CHK_,Nat.reduceBEq,hlt,x1,o0',o1']
    refine h7 S.length room now v L a.at_ _ _ _ (hS _ _) hv hLl (fun _ => ?_) (fun q=>absurd q (by omega))
    simp only [Cz2,A_,simprocAttr,ne_eq,(Uz5 _).1,CHK_,Nat.reduceBEq,hlt,x1,o0',o1']
    refine h8 [] [] _ _ _ (by simp) (by simp) ?_
    rw [decide_eq_true rfl]
    simp only [Cz2,A_,simprocAttr,ne_eq,(Uz5 _).1,CHK_,Nat.reduceBEq,hlt,x1]
    have hLl2:=sy.len
    have hcmp:=fun ids (hp:ids.Perm (lm.map Prod.snd)) hs=>sy.next (ids:=ids) hp hs
    refine h9 h hm room now lm _ _ _ t fun ids G hp hs => ?_
    rw [hcmp ids hp hs]
    rw [List.isEmpty_map]
    simp only [Cz2,A_,simprocAttr,ne_eq,(Uz5 _).1,CHK_,Nat.reduceBEq,x1]
    refine h10 S.length room now v L _ _ _ (hS _ _) hv ?_
    have z1:((L.map Prod.snd).headD 0=(L.map Prod.snd).headD 0)=True:=eq_true rfl
    have z2:((!L.isEmpty)=(!L.isEmpty))=True:=eq_true rfl
    generalize (L.map Prod.snd).headD 0=hd at z1 ⊢
    generalize (!L.isEmpty)=ne at z2 ⊢
    have ld:=ref_l1 (hS (now) v)
    simp only [Cz2,A_,simprocAttr,ne_eq,(Uz5 _).1,CHK_,Nat.reduceBEq,z1,z2,ld]
    refine h11 h hm room now lm _ _ _ t.app ?_
    simp only [Cz2,A_,simprocAttr,ne_eq,(Uz5 _).1,CHK_,Nat.reduceBEq,z1,z2,ld]
    refine h12 S.length room now v L _ _ _ (hS _ _) hv ?_
    rw [hLl2]
    simp only [Cz2,A_,simprocAttr,ne_eq,(Uz5 _).1,CHK_,Nat.reduceBEq,z1,z2,ld]
    refine h13 h hm room now lm _ _ _ t.app ?_
    simp only [Cz2,A_,simprocAttr,ne_eq,(Uz5 _).1,CHK_,Nat.reduceBEq,z1,z2,ld,hw]
    exact ih ⟨i + 1,_,lm,L,now,v⟩ _ _ _ (by dsimp only; omega) ⟨by dsimp only; omega,t.app,hv,sy⟩ (by simp [keep,zm]) (by rw [app_take_add]; rfl) rfl
  · refine h6 h hm room now lm a.at_ _ _ _ t (fun q=>absurd q hto) (fun _ H4 ids _ t' hp hs => ?_)
    obtain ⟨e2,s'⟩:=sy.adv t.nd hp hs
    simp only [Cz2,A_,simprocAttr,ne_eq,(Uz5 _).1,CHK_,Nat.reduceBEq,hlt,x1,o0',o1']
    refine h7 S.length room now v L a.at_ _ _ _ (hS _ _) hv hLl (fun q=>absurd q hto) (fun _ v' hv' => ?_)
    rw [sapp,e2]
    simp only [Cz2,A_,simprocAttr,ne_eq,(Uz5 _).1,CHK_,Nat.reduceBEq,hlt,x1,o0',o1']
    have hidl:((L.takeWhile (upTo a.at_)).map Prod.fst).length≤1000000:=by
      rw [List.length_map]
      have:=(List.takeWhile_sublist (p:=upTo a.at_) (l:=L)).length_le
      omega
    refine h8 _ _ _ _ _ hidl hidl ?_
    rw [decide_eq_true rfl]
    simp only [Cz2,A_,simprocAttr,ne_eq,(Uz5 _).1,CHK_,Nat.reduceBEq,hlt,x1]
    have hLl2:=s'.len
    have hcmp:=fun ids (hp:ids.Perm ((lm.filter fun p=>decide (a.at_ < p.2)).map Prod.snd)) hs=>s'.next (ids:=ids) hp hs
    refine h9 h hm room a.at_ (lm.filter fun p=>decide (a.at_ < p.2)) _ _ _ t' fun ids G hp hs => ?_
    rw [hcmp ids hp hs]
    rw [List.isEmpty_map]
    simp only [Cz2,A_,simprocAttr,ne_eq,(Uz5 _).1,CHK_,Nat.reduceBEq,x1]
    refine h10 S.length room a.at_ v' (L.dropWhile (upTo a.at_)) _ _ _ (hS _ _) hv' ?_
    have z1:(((L.dropWhile (upTo a.at_)).map Prod.snd).headD 0=((L.dropWhile (upTo a.at_)).map Prod.snd).headD 0)=True:=eq_true rfl
    have z2:((!(L.dropWhile (upTo a.at_)).isEmpty)=(!(L.dropWhile (upTo a.at_)).isEmpty))=True:=eq_true rfl
    generalize ((L.dropWhile (upTo a.at_)).map Prod.snd).headD 0=hd at z1 ⊢
    generalize (!(L.dropWhile (upTo a.at_)).isEmpty)=ne at z2 ⊢
    have ld:=ref_l1 (hS (a.at_) v')
    simp only [Cz2,A_,simprocAttr,ne_eq,(Uz5 _).1,CHK_,Nat.reduceBEq,z1,z2,ld]
    refine h11 h hm room a.at_ (lm.filter fun p=>decide (a.at_ < p.2)) _ _ _ t'.app ?_
    simp only [Cz2,A_,simprocAttr,ne_eq,(Uz5 _).1,CHK_,Nat.reduceBEq,z1,z2,ld]
    refine h12 S.length room a.at_ v' (L.dropWhile (upTo a.at_)) _ _ _ (hS _ _) hv' ?_
    rw [hLl2]
    simp only [Cz2,A_,simprocAttr,ne_eq,(Uz5 _).1,CHK_,Nat.reduceBEq,z1,z2,ld]
    refine h13 h hm room a.at_ (lm.filter fun p=>decide (a.at_ < p.2)) _ _ _ t'.app ?_
    simp only [Cz2,A_,simprocAttr,ne_eq,(Uz5 _).1,CHK_,Nat.reduceBEq,z1,z2,ld,hw]
    exact ih ⟨i + 1,_,(lm.filter fun p=>decide (a.at_ < p.2)),(L.dropWhile (upTo a.at_)),a.at_,v'⟩ _ _ _ (by dsimp only; omega) ⟨by dsimp only; omega,t'.app,hv',s'⟩ (by simp [keep,zm]) (by rw [app_take_add]; rfl) rfl
end Go.AM
namespace Go.AM
open Go
section
variable {H:Type} {enc:TypeId×Value→H} {P:Program} {w:World} {sp:Nat→Bool} {held:Bool}
theorem trodAll_stays {W W' : World} (hl : laidOutB P = true) (hb : RowKit.Below W.heap.size W W') : ∀ {ts : List TypeId} {vs : List Value} {ds : List (DataW H)} {ps : List MemPlace}, (∀ t ∈ ts, P.readableRec t = true ∧ t < P.types.size) →
    DataW.TrodAll enc P W 0 (fun _=>true) true ts vs ds ps→DataW.TrodAll enc P W' 0 (fun b=>decide (b < W.heap.size)) true ts vs ds ps
  | [],[],[],_,_,h=>h
  | t :: ts,v :: vs,d :: ds,ps,ht,⟨p,q,h1,h2,e⟩=>by
    obtain ⟨n,hn⟩:=h1
    exact ⟨p,q,RowKit.Below.trod hl (ht t List.mem_cons_self).1 (ht t List.mem_cons_self).2 ⟨n,hn⟩ hb (DataW.trod_lt n _ _ _ hn),trodAll_stays hl hb (fun t h=>ht t (List.mem_cons_of_mem _ h)) h2,e⟩
  | [],[],_ :: _,_,_,h=>h.elim
  | [],_ :: _,_,_,_,h=>h.elim
  | _ :: _,[],_,_,_,h=>h.elim
  | _ :: _,_ :: _,[],_,_,h=>h.elim
end
end Go.AM
namespace Go.AM
open Go
section
variable {H:Type} {enc:TypeId×Value→H} {P:Program} {w:World} {sp:Nat→Bool} {held:Bool}
def contig (P:Program):List Field→Nat→Nat→Bool
  | [],o,tot=>o == tot
  | f :: l,o,tot=>f.offset == o && contig P l (o + P.cellsOf f.type) tot
def plainT (P:Program):Nat→TypeId→Bool
  | 0,_=>false
  | d + 1,t=>match P.underlying t with
    | some .bool | some (.int _) | some .string=>true
    | some (.slice e)=>decide (0 < P.cellsOf e) && (isAgg P e || P.cellsOf e == 1) && plainT P d e
    | some (.struct fs)=>contig P fs.toList 0 (P.cellsOf t) && fs.toList.all fun f=>plainT P d f.type
    | some (.array m e)=>P.cellsOf t == m * P.cellsOf e && plainT P d e
    | _=>false
def shp (P:Program):Nat→TypeId→List AV→Prop
  | 0,_,_=>False
  | d + 1,t,as=>match P.underlying t with
    | some .bool=>∃b,as=[.s (.bool b)]
    | some (.int k)=>∃i,as=[.s (.int k i)]∧(Lit.int k i).wf=true
    | some .string=>∃l,as=[.s (.str l)]∧l.length≤maxLen
    | some (.slice e)=>∃es:List AV,as=[.list .sh (P.cellsOf e) es]∧es.length≤maxLen∧∀x∈es,shp P d e x.cells∧(isAgg P e=true→x = .agg x.cells)∧(isAgg P e=false→x.cells=[x])
    | some (.struct fs)=>fs.toList.foldr (fun f (Q:List AV→Prop) as=>∃a b,as=a ++ b∧shp P d f.type a∧Q b) (fun as=>as=[]) as
    | some (.array m e)=>∃ps:List (List AV),ps.length=m∧as=ps.flatten∧∀p∈ps,shp P d e p
    | _=>False
structure Tells (w:World) (as:List AV) (cs:List Value):Prop where
  vl:VL G.none w as cs
  cell:∀c∈as,c.isCell=true
  low:AV.under.go 0 as=true
theorem Tells.nil:Tells w [] []:=⟨.nil,(fun _ h=>by cases h),rfl⟩
theorem Tells.app {a b:List AV} {c d:List Value} (h:Tells w a c) (h':Tells w b d):Tells w (a ++ b) (c ++ d) :=
  ⟨h.vl.app h'.vl,fun x hx=>(List.mem_append.1 hx).elim (h.cell x) (h'.cell x),by rw [under_app',h.low,h'.low]; rfl⟩
theorem Tells.flat:∀{ps:List (List AV)} {qs:List (List Value)},ps.length=qs.length→(∀(i:Nat) (p:List AV) (q:List Value),ps[i]? = some p→qs[i]? = some q→Tells w p q)→Tells w ps.flatten qs.flatten
  | [],[],_,_ => .nil
  | [],_ :: _,h,_=>by simp at h
  | _ :: _,[],h,_=>by simp at h
  | p :: ps,q :: qs,h,hall=>by
    rw [List.flatten_cons,List.flatten_cons]
    exact (hall 0 p q rfl rfl).app (Tells.flat (by simpa using h) fun i a b ha hb=>hall (i + 1) a b (by simpa using ha) (by simpa using hb))
theorem Tells.sc (x:Sc):Tells w [.s x] [x.toV]:=⟨.sc x .nil,fun c hc=>by rw [List.mem_singleton.1 hc]; rfl,rfl⟩
theorem lies_flat {b c:Nat}:∀(qs:List (List Value)) (off:Nat),(∀i q,qs[i]? = some q→w.cells? 0 ⟨b,off + i * c,none⟩ c=some q)→∀j v,qs.flatten[j]? = some v→w.cell? ⟨b,off + j,none⟩=some v
  | [],off,_,j,v,h=>by simp at h
  | q :: qs,off,hall,j,v,h=>by
    have hk:=hall 0 q rfl
    rw [Nat.zero_mul,Nat.add_zero] at hk
    have hs:=World.cells?_some hk
    rw [List.flatten_cons] at h
    by_cases hj:j < c
    · rw [List.getElem?_append_left (by omega)] at h
      have:=hs.2.2 j hj
      rw [Addr.add_lit] at this
      rw [this]; exact h
    · rw [List.getElem?_append_right (by omega),hs.2.1] at h
      have:=lies_flat qs (off + c) (fun i q hi=>by
        have:=hall (i + 1) q (by simpa using hi)
        rw [show off + c + i * c=off + (i + 1) * c by rw [Nat.add_mul]; omega]
        exact this) (j - c) v h
      rwa [show off + c + (j - c)=off + j by omega] at this
theorem choose_list {β:Type} {n:Nat} {p:Nat→β→Prop} (h:∀i,i < n→∃b,p i b):∃l:List β,l.length=n∧∀i b,l[i]? = some b→p i b:=by
  induction n with
  | zero=>exact ⟨[],rfl,fun i b h=>by simp at h⟩
  | succ n ih =>
    obtain ⟨l,hl,hall⟩:=ih fun i hi=>h i (by omega)
    obtain ⟨b,hb⟩:=h n (by omega)
    refine ⟨l ++ [b],by simp [hl],fun i c hc => ?_⟩
    by_cases hi:i < l.length
    · rw [List.getElem?_append_left hi] at hc; exact hall i c hc
    · rw [List.getElem?_append_right (by omega)] at hc
      have:i=n:=by
        have:=(List.getElem?_eq_some_iff.1 hc).1
        simp at this; omega
      subst this
      rw [hl,Nat.sub_self] at hc
      injection hc with hc; subst hc; exact hb
def elemA (ag:Bool) (as:List AV):AV:=match ag with
  | true => .agg as
  | false=>as.getD 0 .undef
theorem elemA_cells {w:World} {ag:Bool} {as:List AV} {cs:List Value} (h:Tells w as cs) (hl:ag=true∨as.length=1):(elemA ag as).cells=as:=by
  cases ag with
  | true=>rfl
  | false =>
    obtain ⟨a,rfl⟩:=List.length_eq_one_iff.1 (hl.resolve_left (by simp))
    have hc:=h.cell a (by simp)
    show a.cells=[a]
    cases a <;> simp [AV.isCell] at hc <;> rfl
theorem elemA_low {w:World} {ag:Bool} {as:List AV} {cs:List Value} (h:Tells w as cs) (hl:ag=true∨as.length=1):AV.under 0 (elemA ag as)=true:=by
  cases ag with
  | true=>exact h.low
  | false =>
    obtain ⟨a,rfl⟩:=List.length_eq_one_iff.1 (hl.resolve_left (by simp))
    have:=h.low
    simpa [elemA,AV.under.go] using this
theorem trod_struct_shp {d m tot : Nat} {cs : List Value} (ih : ∀ t, plainT P d t = true → ∀ N cs x, DataW.trod enc P w 0 sp held N t cs = some x → ∃ as, shp P d t as ∧ Tells w as cs) (htot : cs.length = tot) :
    ∀(l:List Field) (o:Nat),contig P l o tot=true→(l.all fun f=>plainT P d f.type)=true→(∀f∈l,∃x,DataW.trod enc P w 0 sp held m f.type ((cs.drop f.offset).take (P.cellsOf f.type))=some x) →
    ∃as,l.foldr (fun f (Q:List AV→Prop) as=>∃a b,as=a ++ b∧shp P d f.type a∧Q b) (fun as=>as=[]) as∧Tells w as (cs.drop o)
  | [],o,hc,_,_=>by
    have:o=tot:=by simpa [contig] using hc
    subst this
    rw [List.drop_of_length_le (by omega)]
    exact ⟨[],rfl,.nil⟩
  | f :: l,o,hc,hp,hall=>by
    simp only [contig,Bool.and_eq_true,beq_iff_eq] at hc
    simp only [List.all_cons,Bool.and_eq_true] at hp
    obtain ⟨x,hx⟩:=hall f List.mem_cons_self
    obtain ⟨a,ha,hta⟩:=ih _ hp.1 _ _ _ hx
    obtain ⟨b,hb,htb⟩:=trod_struct_shp ih htot l _ hc.2 hp.2 fun g hg=>hall g (List.mem_cons_of_mem _ hg)
    refine ⟨a ++ b,⟨a,b,rfl,ha,hb⟩,?_⟩
    rw [hc.1] at hta
    have:cs.drop o=(cs.drop o).take (P.cellsOf f.type) ++ cs.drop (o + P.cellsOf f.type):=by
      rw [←List.drop_drop,List.take_append_drop]
    rw [this]
    exact hta.app htb
theorem flat_parts {c:Nat}:∀(m:Nat) (cs:List Value),cs.length=m * c→((List.range m).map fun i=>(cs.drop (i * c)).take c).flatten=cs
  | 0,cs,h=>by simp at h; subst h; rfl
  | m + 1,cs,h=>by
    rw [List.range_succ_eq_map,List.map_cons,List.map_map,List.flatten_cons,Nat.zero_mul,List.drop_zero]
    have:=flat_parts (c:=c) m (cs.drop c) (by rw [List.length_drop,h,Nat.add_mul]; omega)
    have e:((fun i=>(cs.drop (i * c)).take c) ∘ Nat.succ)=fun i=>((cs.drop c).drop (i * c)).take c:=by
      funext i
      simp only [Function.comp,List.drop_drop,Nat.succ_eq_add_one,Nat.add_mul,Nat.one_mul]
      rw [Nat.add_comm c]
    rw [e,this,List.take_append_drop]
theorem trod_shp:∀(d:Nat) (t:TypeId),plainT P d t=true→∀(N:Nat) (cs:List Value) (x:DataW H×List MemPlace),DataW.trod enc P w 0 sp held N t cs=some x→∃as,shp P d t as∧Tells w as cs
  | 0,t,h,_,_,_,_=>by simp [plainT] at h
  | d + 1,t,h,N,cs,x,hx=>by
    have ih:=trod_shp d
    unfold plainT at h
    unfold shp
    cases hu:P.underlying t with
    | none=>rw [hu] at h; cases h
    | some D =>
      rw [hu] at h
      cases D with
      | bool =>
        obtain ⟨b,rfl,_⟩:=DataW.trod_bool hu hx
        exact ⟨_,⟨b,rfl⟩,.sc (.bool b)⟩
      | int k =>
        obtain ⟨n,rfl,_,hw⟩:=DataW.trod_int hu hx
        exact ⟨_,⟨n,rfl,hw⟩,.sc (.int k n)⟩
      | string =>
        obtain ⟨s,rfl,_,hl⟩:=DataW.trod_string hu hx
        refine ⟨_,⟨s.data.toList,rfl,by simpa using hl⟩,?_⟩
        have:=Tells.sc (w:=w) (.str s.data.toList)
        simpa [Sc.toV] using this
      | slice e =>
        simp only [Bool.and_eq_true,decide_eq_true_eq,Bool.or_eq_true,beq_iff_eq] at h
        obtain ⟨⟨hpos,hag⟩,hpe⟩:=h
        rcases DataW.trod_slice hu hx with ⟨rfl,_⟩ | ⟨a,len,cap,elems,rest,n,_,rfl,_,_,hle,hcap,hlen,hel,_,_⟩
        · exact ⟨_,⟨[],rfl,Nat.zero_le _,fun _ h=>by cases h⟩,⟨.lnil hpos .nil,fun c hc=>by rw [List.mem_singleton.1 hc]; rfl,rfl⟩⟩
        · have each:∀i,i < len→∃z:List Value×List AV,w.cells? 0 (a.add (i * P.cellsOf e)) (P.cellsOf e)=some z.1∧shp P d e z.2∧Tells w z.2 z.1:=fun i hi=>by
            have h1:=hel i hi
            rw [List.getElem?_eq_getElem (by omega)] at h1
            obtain ⟨q,hq,hq2⟩:=Option.bind_eq_some_iff.1 h1
            obtain ⟨as,h2,h3⟩:=ih e hpe _ _ _ hq2
            exact ⟨(q,as),hq,h2,h3⟩
          obtain ⟨l,hl,hall⟩:=choose_list each
          have hin:∀z∈l,(∃i,w.cells? 0 (a.add (i * P.cellsOf e)) (P.cellsOf e)=some z.1)∧shp P d e z.2∧Tells w z.2 z.1:=fun z hz=>by
            obtain ⟨i,hi⟩:=List.getElem?_of_mem hz
            exact ⟨⟨i,(hall i z hi).1⟩,(hall i z hi).2⟩
          have hone:∀z∈l,z.2.length=P.cellsOf e:=fun z hz=>by
            obtain ⟨⟨i,h1⟩,_,h2⟩:=hin z hz
            rw [←h2.vl.length]; exact (World.cells?_some h1).2.1
          have hag':∀z∈l,isAgg P e=true∨z.2.length=1:=fun z hz=>hag.imp id fun h=>by rw [hone z hz,h]
          let es:List AV:=l.map fun z=>elemA (isAgg P e) z.2
          have hcells:es.flatMap AV.cells=(l.map (·.2)).flatten:=by
            have:∀(l':List (List Value×List AV)),(∀z∈l',z∈l)→(l'.map fun z=>elemA (isAgg P e) z.2).flatMap AV.cells=(l'.map (·.2)).flatten:=by
              intro l'
              induction l' with
              | nil=>intro _; rfl
              | cons z l' ihl =>
                intro hs
                rw [List.map_cons,List.flatMap_cons,List.map_cons,List.flatten_cons,ihl fun y hy=>hs y (List.mem_cons_of_mem _ hy)]
                have hz:=hs z List.mem_cons_self
                rw [elemA_cells (hin z hz).2.2 (hag' z hz)]
            exact this l fun _ h=>h
          have hspot:es=[]∨a.spot=none:=by
            by_cases h0:len=0
            · left; apply List.length_eq_zero_iff.1; simp [es,hl,h0]
            · right
              obtain ⟨z,hz,_⟩:=each 0 (by omega)
              have h1:=(World.cells?_some hz).2.2 0 hpos
              have h2:(a.add (0 * P.cellsOf e)).add 0=a:=by simp [Addr.add]
              rw [h2,List.getElem?_eq_getElem (by rw [(World.cells?_some hz).2.1]; exact hpos)] at h1
              unfold World.cell? at h1
              split at h1
              · split at h1
                · cases h1
                · rename_i h3; simpa using h3
              · cases h1
          have htell:Tells w (l.map (·.2)).flatten (l.map (·.1)).flatten:=Tells.flat (by simp) fun i p q hp hq=>by
            rw [List.getElem?_map] at hp hq
            cases hz:l[i]? with
            | none=>rw [hz] at hp; cases hp
            | some z =>
              rw [hz] at hp hq
              injection hp with hp; injection hq with hq; subst hp; subst hq
              exact (hall i z hz).2.2
          refine ⟨_,⟨es,rfl,by simp [es,hl]; omega,fun y hy => ?_⟩,⟨?_,fun c hc=>by rw [List.mem_singleton.1 hc]; rfl,rfl⟩⟩
          · obtain ⟨z,hz,rfl⟩:=List.mem_map.1 hy
            rw [elemA_cells (hin z hz).2.2 (hag' z hz)]
            refine ⟨(hin z hz).2.1,fun h=>by rw [h]; rfl,fun h => ?_⟩
            obtain ⟨a,ha⟩:=List.length_eq_one_iff.1 ((hag' z hz).resolve_left (by rw [h]; simp))
            rw [ha,h]; rfl
          · refine .list (xs:=(l.map (·.1)).flatten) (.inl rfl) (by simp [es,hl]) hle hpos hspot (fun y hy => ?_) ?_ (by rw [hcells]; exact htell.vl) (fun i v hv=>⟨?_,fun h=>(show False from h)⟩) .nil
            · obtain ⟨z,hz,rfl⟩:=List.mem_map.1 hy
              rw [elemA_cells (hin z hz).2.2 (hag' z hz)]
              exact ⟨hone z hz,(hin z hz).2.2.cell⟩
            · refine under_mem.2 fun y hy => ?_
              obtain ⟨z,hz,rfl⟩:=List.mem_map.1 hy
              exact elemA_low (hin z hz).2.2 (hag' z hz)
            · rcases hspot with h0 | h0
              · have:l=[]:=by simpa [es] using h0
                rw [this] at hv; simp at hv
              · obtain ⟨ab,ao,as⟩:=a
                dsimp only at h0; subst h0
                refine lies_flat (c:=P.cellsOf e) _ ao (fun j q hq => ?_) i v hv
                rw [List.getElem?_map] at hq
                cases hz:l[j]? with
                | none=>rw [hz] at hq; cases hq
                | some z =>
                  rw [hz] at hq
                  injection hq with hq; subst hq
                  have:=(hall j z hz).1
                  rwa [Addr.add_lit] at this
      | struct fs =>
        simp only [Bool.and_eq_true] at h
        obtain ⟨xs,n,_,_,hl,hxl,hf⟩:=DataW.trod_struct hu hx
        obtain ⟨as,h1,h2⟩:=trod_struct_shp (m:=n) ih hl fs.toList 0 h.1 h.2 fun f hm=>by
          obtain ⟨i,hi⟩:=List.getElem?_of_mem hm
          have hi':fs[i]? = some f:=by simpa using hi
          have:=hf i f hi'
          have hlt:=(Array.getElem?_eq_some_iff.1 hi').1
          rw [List.getElem?_eq_getElem (by omega)] at this
          exact ⟨_,this⟩
        exact ⟨as,h1,by simpa using h2⟩
      | array m e =>
        simp only [Bool.and_eq_true,beq_iff_eq] at h
        obtain ⟨xs,n,_,_,hl,hxl,hf⟩:=DataW.trod_array hu hx
        obtain ⟨ps,hpl,hall⟩:=choose_list (n:=m) (p:=fun i as=>shp P d e as∧Tells w as ((cs.drop (i * P.cellsOf e)).take (P.cellsOf e))) fun i hi=>by
          have:=hf i hi
          rw [List.getElem?_eq_getElem (by omega)] at this
          exact ih e h.2 _ _ _ this
        refine ⟨ps.flatten,⟨ps,hpl,rfl,fun p hp => ?_⟩,?_⟩
        · obtain ⟨i,hi⟩:=List.getElem?_of_mem hp
          exact (hall i p hi).1
        · rw [←flat_parts (c:=P.cellsOf e) m cs (by rw [hl,h.1])]
          refine Tells.flat (by simp [hpl]) fun i p q hp hq => ?_
          have hlt:i < m:=by have:=(List.getElem?_eq_some_iff.1 hp).1; omega
          have:q=(cs.drop (i * P.cellsOf e)).take (P.cellsOf e):=by
            rw [List.getElem?_map,List.getElem?_range hlt] at hq
            injection hq with hq; exact hq.symm
          subst this
          exact (hall i p hp).2
      | _=>cases h
def argA (ag:Bool) (as:List AV):AV:=elemA ag as
theorem trod_arg {d : Nat} {t : TypeId} {v : Value} {D : DataW H} {ps : List MemPlace} (hp : plainT P d t = true) (hok : Value.okWide P w .any 0 t v) (h : DataW.Trod enc P w 0 sp held t v D ps) :
    ∃as,shp P d t as∧V G.none w (argA (isAgg P t) as) v:=by
  obtain ⟨n,hn⟩:=h
  obtain ⟨as,h1,h2⟩:=trod_shp d t hp n _ _ hn
  refine ⟨as,h1,?_⟩
  cases hu:P.underlying t with
  | none =>
    cases d with
    | zero=>simp [plainT] at hp
    | succ d=>rw [plainT,hu] at hp; cases hp
  | some D =>
    have scalar:isAgg P t=false→(∀xs,v≠.agg xs)→V G.none w (argA (isAgg P t) as) v:=fun hf hv=>by
      rw [hf]
      have e:v.cells.toList=[v]:=by
        cases v <;> first | rfl | exact (hv _ rfl).elim
      rw [e] at h2
      obtain ⟨a,as',rfl,h3,h4⟩:∃a as',as=a :: as'∧V G.none w a v∧VL G.none w as' []:=by
        cases as with
        | nil=>have:=h2.vl.length; simp at this
        | cons a as' =>
          obtain ⟨v',vs',hh,h3,h4⟩:=h2.vl.cons_left
          injection hh with hh1 hh2; subst hh1; subst hh2
          exact ⟨a,as',rfl,h3,h4⟩
      exact h3
    cases D with
    | struct fs =>
      simp only [Value.okWide,hu] at hok
      obtain ⟨cs,rfl,_,_⟩:=hok
      rw [show isAgg P t=true by simp [isAgg,hu]]
      exact .agg h2.cell (by simpa [Value.cells] using h2.vl) .nil
    | array m e =>
      simp only [Value.okWide,hu] at hok
      obtain ⟨cs,rfl,_,_⟩:=hok
      rw [show isAgg P t=true by simp [isAgg,hu]]
      exact .agg h2.cell (by simpa [Value.cells] using h2.vl) .nil
    | _ =>
      refine scalar (by simp [isAgg,hu]) fun xs hv => ?_
      subst hv
      simp [Value.okWide,Cell.okWide,Cell.ok,hu] at hok
end
end Go.AM
namespace Go.AM
open Go
section
variable {P:Program}
def parts (P:Program) (d:Nat):List TypeId→List AV→Prop
  | [],as=>as=[]
  | u :: ts,as=>∃a b,as=a ++ b∧shp P d u a∧parts P d ts b
theorem parts_of {d:Nat}:∀{fs:List Field} {as:List AV},fs.foldr (fun f (Q:List AV→Prop) as=>∃a b,as=a ++ b∧shp P d f.type a∧Q b) (fun as=>as=[]) as→parts P d (fs.map (·.type)) as
  | [],_,h=>h
  | f :: fs,as,h=>by
    obtain ⟨a,b,h1,h2,h3⟩:=h
    exact ⟨a,b,h1,h2,parts_of h3⟩
theorem shp_struct {d:Nat} {t:TypeId} {fs:Array Field} {ts:List TypeId} {as:List AV} (ht:P.underlying t=some (.struct fs)) (hts:fs.toList.map (·.type)=ts) (h:shp P (d + 1) t as):parts P d ts as:=by
  unfold shp at h
  rw [ht] at h
  subst hts
  exact parts_of h
theorem shp_int {d:Nat} {t:TypeId} {k:IntKind} {as:List AV} (ht:P.underlying t=some (.int k)) (h:shp P (d + 1) t as):∃i,as=[.s (.int k i)]∧(Lit.int k i).wf=true:=by
  unfold shp at h; rw [ht] at h; exact h
end
end Go.AM
namespace Go.AM
open Go
section
variable {P:Program}
end
end Go.AM
namespace Go.AM
open Go
variable {P:Program}
theorem of_eachQ {α:Type} {f:α→AV} {Q:α→Prop}:∀(es:List AV),(∀x∈es,∃a,x=f a∧Q a)→∃l:List α,es=l.map f∧∀a∈l,Q a
  | [],_=>⟨[],rfl,fun a h=>by cases h⟩
  | x :: es,h=>by
    obtain ⟨a,rfl,hq⟩:=h x (List.mem_cons_self ..)
    obtain ⟨l,rfl,hl⟩:=of_eachQ es fun y hy=>h y (List.mem_cons_of_mem _ hy)
    exact ⟨a :: l,rfl,fun b hb=>by rcases List.mem_cons.1 hb with rfl | hb; exact hq; exact hl b hb⟩
theorem shp_sliceQ {d : Nat} {t e : TypeId} {c : Nat} {as : List AV} {α : Type} (f : α → AV) (Q : α → Prop) (ht : P.underlying t = some (.slice e)) (hc : P.cellsOf e = c) (he : ∀ x : AV, shp P d e x.cells → (isAgg P e = true → x = .agg x.cells) → (isAgg P e = false → x.cells = [x]) → ∃ a, x = f a ∧ Q a) (h : shp P (d + 1) t as) :
    ∃l:List α,as=[.list .sh c (l.map f)]∧l.length≤9223372036854775807∧∀a∈l,Q a:=by
  subst hc
  unfold shp at h; rw [ht] at h
  obtain ⟨es,rfl,hl,hall⟩:=h
  obtain ⟨l,rfl,hq⟩:=of_eachQ (f:=f) es fun x hx=>he x (hall x hx).1 (hall x hx).2.1 (hall x hx).2.2
  refine ⟨l,rfl,?_,hq⟩
  rw [List.length_map] at hl
  unfold maxLen at hl; omega
theorem shp_i64 {d:Nat} {t:TypeId} {as:List AV} (ht:P.underlying t=some (.int .i64)) (h:shp P (d + 1) t as):∃i:Int,as=[.s (.int .i64 i)]∧-9223372036854775808≤i∧i≤9223372036854775807:=by
  obtain ⟨i,rfl,hw⟩:=shp_int ht h
  refine ⟨i,rfl,?_⟩
  unfold Lit.wf at hw
  rw [Bool.and_eq_true] at hw
  have h1:=of_decide_eq_true hw.1
  have h2:=of_decide_eq_true hw.2
  simp [IntKind.min,IntKind.max,IntKind.signed,IntKind.bits] at h1 h2
  omega
end Go.AM
