import Derived.Test.YtlnclcpffepfaaaM5
import Derived.Lib.BytesEntry
import Derived.Below
set_option linter.unusedSimpArgs false
set_option linter.unusedVariables false
namespace Go.AM
open Go
def AnyJ (C:CallF) (P:Program) (cfg:Cfg) (f:FuncId) (ops:Array Oper) (J:Array Bool→St→Prop) (R:Fr×St):Nat→Array Bool→Fr→St→Prop
  | 0,listed,fr,σ=>Region.ready .any ops listed=[]∧(fr,σ)=R∧J listed σ
  | n + 1,listed,fr,σ=>J listed σ∧(Region.ready .any ops listed=[]→(fr,σ)=R) ∧
    ∀i∈Region.ready .any ops listed,∃fr' σ',stepA C P cfg f ops i fr σ=some (fr',σ')∧AnyJ C P cfg f ops J R n (listed.setIfInBounds i true) fr' σ'
section
variable {P:Program} {C:CallF} {cfg:Cfg} {f:FuncId} {fr fr' fr1:Fr} {σ σ':St} {ops:Array Oper} {d:Nat} {v:AV} {J J':Array Bool→St→Prop} {R:Fr×St}
theorem AnyJ.here:∀{n:Nat} {listed:Array Bool} {fr:Fr} {σ:St},AnyJ C P cfg f ops J R n listed fr σ→J listed σ
  | 0,_,_,_,h=>h.2.2
  | _ + 1,_,_,_,h=>h.1
def More (l l':Array Bool):Prop:=∀x:Nat,l.getD x false=true→l'.getD x false=true
theorem More.set (l:Array Bool) (i:Nat):More l (l.setIfInBounds i true):=fun x h=>getD_set_true h
theorem AnyJ.mono:∀{n:Nat} {listed:Array Bool} {fr:Fr} {σ:St},(∀L s,More listed L→J L s→J' L s)→AnyJ C P cfg f ops J R n listed fr σ→AnyJ C P cfg f ops J' R n listed fr σ
  | 0,l,_,_,hJ,h=>⟨h.1,h.2.1,hJ _ _ (fun _ h=>h) h.2.2⟩
  | _ + 1,l,_,_,hJ,h=>⟨hJ _ _ (fun _ h=>h) h.1,h.2.1,fun i hi=>by
    obtain ⟨fr',σ',h1,h2⟩:=h.2.2 i hi
    exact ⟨fr',σ',h1,h2.mono fun L s hm=>hJ L s fun x hx=>hm x (More.set l i x hx)⟩⟩
def Dep (cfg:Cfg) (f:FuncId) (ops:Array Oper) (l:Array Bool) (k:Nat):Prop:=∃j,l.getD j false=true∧isReader cfg f ops j=false∧hangsOn ops j k=true
def Closed (ops:Array Oper) (l:Array Bool):Prop:=∀j k,l.getD j false=true→hangsOn ops j k=true→l.getD k false=true
theorem ready_hangs {l:Array Bool} {j k:Nat} (hj:j∈Region.ready .any ops l) (h:hangsOn ops j k=true):l.getD k false=true:=by
  obtain ⟨_,o,ho,hall⟩:=mem_ready.1 hj
  unfold hangsOn at h
  rw [ho] at h
  dsimp only at h
  obtain ⟨e,he,hb⟩:=Array.any_eq_true'.1 h
  simp only [Bool.and_eq_true,beq_iff_eq] at hb
  rw [←hb.2]; exact hall e he hb.1
theorem getD_set_cases {l:Array Bool} {i x:Nat} (h:(l.setIfInBounds i true).getD x false=true):x=i∨l.getD x false=true:=by
  by_cases e:i=x
  · exact .inl e.symm
  · rw [getD_set_ne false e] at h; exact .inr h
theorem Closed.set {l:Array Bool} {j:Nat} (hc:Closed ops l) (hj:j∈Region.ready .any ops l):Closed ops (l.setIfInBounds j true):=by
  intro x k hx hk
  rcases getD_set_cases hx with rfl | hx
  · exact getD_set_true (ready_hangs hj hk)
  · exact getD_set_true (hc x k hx hk)
theorem ready_unlisted {l:Array Bool} {i:Nat} (hi:i∈Region.ready .any ops l):l.getD i false=false:=by
  have h0:=(mem_ready.1 hi).1
  rcases Nat.lt_or_ge i l.size with h' | h'
  · simp [h'] at h0 ⊢; exact h0
  · simp [Array.getElem?_eq_none h']
theorem not_dep {l:Array Bool} {i:Nat} (hc:Closed ops l) (hi:i∈Region.ready .any ops l):¬Dep cfg f ops (l.setIfInBounds i true) i:=by
  rintro ⟨j,hj,_,hk⟩
  have hu:=ready_unlisted hi
  rcases getD_set_cases hj with rfl | hj
  · rw [ready_hangs hi hk] at hu; cases hu
  · rw [hc j i hj hk] at hu; cases hu
def Agree (T:List Tmp) (fr fr1:Fr):Prop:=fr1.length=fr.length∧∀t∈T,(fr.getD t .undef).isUniq=false→(fr1.getD t .undef).isUniq=false∧(fr1.getD t .undef).look=(fr.getD t .undef).look
theorem look_s {u:AV} {x:Sc} (h:u.look = .s x):u = .s x:=by
  cases u with
  | list fl _ _=>cases fl <;> simp [AV.look] at h
  | _=>first | (simp [AV.look] at h; done) | (simp [AV.look] at h; rw [h])
theorem look_tup {u:AV} {x:List AV} (h:u.look = .tup x):u = .tup x:=by
  cases u with
  | list fl _ _=>cases fl <;> simp [AV.look] at h
  | _=>first | (simp [AV.look] at h; done) | (simp [AV.look] at h; rw [h])
theorem guardA_agree {o:Oper} {b:Bool} (ha:Agree (o.looksAt ops) fr fr1) (h:guardA ops fr o=some b):guardA ops fr1 o=some b:=by
  unfold guardA at h ⊢
  cases hg:o.guard with
  | none=>rw [hg] at h; exact h
  | some jw =>
    obtain ⟨j,want⟩:=jw
    rw [hg] at h
    dsimp only at h ⊢
    cases hd:(ops[j]?).bind (·.dst) with
    | none=>rw [hd] at h; exact h
    | some d =>
      rw [hd] at h
      dsimp only at h ⊢
      have hm:d∈o.looksAt ops:=by
        unfold Oper.looksAt
        rw [hg]
        refine List.mem_append_right _ ?_
        simp [hd]
      have key:∀u,fr[d]? = some u→u.isUniq=false→∃u',fr1[d]? = some u'∧u'.look=u.look:=by
        intro u hu hn
        have hl:d < fr.length:=(List.getElem?_eq_some_iff.1 hu).1
        have hl1:d < fr1.length:=by rw [ha.1]; exact hl
        have e:fr.getD d .undef=u:=by simp [List.getD,hu]
        have:=ha.2 d hm (by rw [e]; exact hn)
        refine ⟨fr1[d],List.getElem?_eq_getElem hl1,?_⟩
        have e1:fr1.getD d .undef=fr1[d]:=by simp [List.getD,hl1]
        rw [←e1,this.2,e]
      split at h
      · rename_i b' hb
        obtain ⟨u',h1,h2⟩:=key _ hb rfl
        rw [h1,look_s (u:=u') (by rw [h2]; rfl)]
        exact h
      · rename_i hb
        obtain ⟨u',h1,h2⟩:=key _ hb rfl
        rw [h1,look_tup (u:=u') (by rw [h2]; rfl)]
        exact h
      · cases h
theorem agree_operand {o:Oper} (ha:Agree (o.looksAt ops) fr fr1) {x:Operand} (hx:x∈o.op.operands.toList) (hc:calmAt fr x=true):AM.seen fr1 x=AM.seen fr x∧calmAt fr1 x=true:=by
  cases x with
  | tmp t =>
    have hm:t∈o.looksAt ops:=List.mem_append_left _ (List.mem_filterMap.2 ⟨.tmp t,hx,rfl⟩)
    have hu:(fr.getD t .undef).isUniq=false:=by simpa [calmAt] using hc
    have:=ha.2 t hm hu
    exact ⟨this.2,by simp only [calmAt,this.1]; rfl⟩
  | _=>exact ⟨rfl,rfl⟩
theorem readV_agree {i:Nat} {o:Oper} (hi:ops[i]? = some o) (ha:Agree (o.looksAt ops) fr fr1) (h:readV C P cfg f ops i fr σ=some v):readV C P cfg f ops i fr1 σ=some v:=by
  unfold readV at h ⊢
  rw [hi] at h ⊢
  dsimp only at h ⊢
  cases hg:guardA ops fr o with
  | none=>rw [hg] at h; cases h
  | some b =>
    rw [hg] at h; rw [guardA_agree ha hg]
    cases b with
    | false=>exact h
    | true =>
      dsimp only at h ⊢
      split at h
      case isFalse=>cases h
      rename_i hc
      simp only [Bool.and_eq_true,List.all_eq_true] at hc
      have hc1:∀x∈o.op.operands.toList,calmAt fr1 x=true:=fun x hx=>(agree_operand ha hx (hc.2 x hx)).2
      rw [if_pos (by simp only [Bool.and_eq_true,List.all_eq_true]; exact ⟨hc.1,hc1⟩),reader_eq hc.1 (fun x hx=>(agree_operand ha hx (hc.2 x hx)).1) hc.2 hc1]
      rw [←h]
      cases evOp C P cfg f o fr σ <;> rfl
theorem readV_step {i:Nat} {o:Oper} (hi:ops[i]? = some o) (h:readV C P cfg f ops i fr σ=some v):stepA C P cfg f ops i fr σ=some (putA o.dst v fr,σ):=by
  unfold readV at h
  unfold stepA
  rw [hi] at h ⊢
  dsimp only at h ⊢
  cases hg:guardA ops fr o with
  | none=>rw [hg] at h; cases h
  | some b =>
    rw [hg] at h
    cases b with
    | false=>dsimp only at h ⊢; injection h with h; rw [h]
    | true =>
      dsimp only at h ⊢
      split at h
      case isFalse=>cases h
      rename_i hc
      simp only [Bool.and_eq_true,List.all_eq_true] at hc
      rw [settle_calm _ fun x hx=>hc.2 x (settled_operands hx)]
      obtain ⟨⟨u,fr',σ'⟩,h1,h2⟩:=map_some h
      obtain ⟨rfl,rfl⟩:=reader_state hc.1 hc.2 h1
      dsimp only at h2; subst h2
      rw [h1]
theorem guardA_put {o:Oper} (h:∀e,o.dst=o.dst→e=d→e∉o.looksAt ops):guardA ops (fr.set d v) o=guardA ops fr o:=by
  unfold guardA
  cases hg:o.guard with
  | none=>rfl
  | some jw =>
    obtain ⟨j,want⟩:=jw
    dsimp only
    cases hd:(ops[j]?).bind (·.dst) with
    | none=>rfl
    | some t =>
      have hm:t∈o.looksAt ops:=by
        unfold Oper.looksAt
        rw [hg]
        exact List.mem_append_right _ (by simp [hd])
      have hne:d≠t:=fun e=>h d rfl rfl (e▸hm)
      dsimp only
      rw [List.getElem?_set_ne hne]
theorem stepA_put {j : Nat} {o : Oper} {x : Option Tmp} (hj : ops[j]? = some o) (h : ∀ d, x = some d → d ∉ o.looksAt ops) (h' : ∀ d, x = some d → o.dst ≠ some d) :
    stepA C P cfg f ops j (putA x v fr) σ=(stepA C P cfg f ops j fr σ).map fun r=>(putA x v r.1,r.2):=by
  cases x with
  | none=>simp only [putA]; cases stepA C P cfg f ops j fr σ <;> rfl
  | some d =>
    have hd:=h d rfl
    have hd':=h' d rfl
    have hop:∀x∈o.op.operands.toList,x≠.tmp d:=fun x hx e=>hd (List.mem_append_left _ (List.mem_filterMap.2 ⟨.tmp d,e▸hx,rfl⟩))
    have put:∀(u:AV) (fr:Fr),putA o.dst u (fr.set d v)=(putA o.dst u fr).set d v:=by
      intro u fr
      cases hod:o.dst with
      | none=>rfl
      | some e =>
        have hne:d≠e:=fun h=>hd' (by rw [hod,h])
        simp only [putA]
        rw [List.set_comm _ _ hne]
    unfold stepA
    rw [hj]
    show (match guardA ops (fr.set d v) o with
      | some true=>match evOp C P cfg f o (settle (fr.set d v) (settled o.op)) σ with
        | some (v,fr,σ)=>some (putA o.dst v fr,σ)
        | none=>none
      | some false=>some (putA o.dst (.tup []) (fr.set d v),σ)
      | none=>none)=(match guardA ops fr o with
      | some true=>match evOp C P cfg f o (settle fr (settled o.op)) σ with
        | some (v,fr,σ)=>some (putA o.dst v fr,σ)
        | none=>none
      | some false=>some (putA o.dst (.tup []) fr,σ)
      | none=>none).map fun (r:Fr×St)=>(r.1.set d v,r.2)
    rw [guardA_put fun e _ he=>by rw [he]; exact hd]
    cases guardA ops fr o with
    | none=>rfl
    | some b =>
      cases b with
      | false=>simp only [Option.map_some]; rw [put]
      | true =>
        dsimp only
        rw [settle_set fun x hx=>hop x (settled_operands hx),evOp_set hop]
        cases evOp C P cfg f o (settle fr (settled o.op)) σ with
        | none=>rfl
        | some r=>simp only [Option.map_some]; rw [put]
theorem stepA_agree {j:Nat} {o:Oper} {T:List Tmp} (hj:ops[j]? = some o) (h:stepA C P cfg f ops j fr σ=some (fr',σ')) (hT:∀d,o.dst=some d→d∉T):Agree T fr fr':=by
  have put:∀(u:AV) (fr0:Fr),Calmer fr fr0→Agree T fr (putA o.dst u fr0):=by
    intro u fr0 hc
    cases hod:o.dst with
    | none=>exact ⟨hc.1,fun t _ ht=>hc.2 t ht⟩
    | some d =>
      refine ⟨by simp [putA,hc.1],fun t hm ht => ?_⟩
      have hne:t≠d:=fun e=>hT d hod (e▸hm)
      simp only [putA]
      rw [getD_set _ _ _ _ hne]
      exact hc.2 t ht
  unfold stepA at h
  rw [hj] at h
  dsimp only at h
  split at h
  · split at h
    · rename_i he
      simp only [Option.some.injEq,Prod.mk.injEq] at h
      obtain ⟨rfl,_⟩:=h
      exact put _ _ ((settle_calmer _ _).trans (evOp_calmer he))
    · cases h
  · simp only [Option.some.injEq,Prod.mk.injEq] at h
    obtain ⟨rfl,_⟩:=h
    exact put _ _ (Calmer.refl _)
  · cases h
theorem AnyJ.first {i : Nat} {oi : Oper} (hi : ops[i]? = some oi) : ∀ (n : Nat) (listed : Array Bool) (fr : Fr) (σ : St), Closed ops listed →
      (∀j oj,ops[j]? = some oj→j≠i→listed.getD j true=false→(∀e∈oj.after,Region.binds .any e=true→e.on≠i)→oi.apart ops oj=true) →
      i∈Region.ready .any ops listed→(∀L s,¬Dep cfg f ops L i→J L s→readV C P cfg f ops i fr s=some v)→(∀L s,J (L.setIfInBounds i true) s→J L s)→AnyJ C P cfg f ops J R n (listed.setIfInBounds i true) (putA oi.dst v fr) σ→AnyJ C P cfg f ops J R (n + 1) listed fr σ:=by
  intro n
  induction n with
  | zero =>
    intro listed fr σ hcl _ hr hy hJ H
    refine ⟨hJ _ _ H.here,fun h=>(by rw [h] at hr; cases hr),fun j hj => ?_⟩
    by_cases hji:j=i
    · subst hji; exact ⟨_,_,readV_step hi (hy _ σ (not_dep hcl hr) H.here),H⟩
    · have:=ready_mono hj hji
      rw [H.1] at this
      cases this
  | succ n ih =>
    intro listed fr σ hcl hfree hr hy hJ H
    refine ⟨hJ _ _ H.here,fun h=>(by rw [h] at hr; cases hr),fun j hj => ?_⟩
    by_cases hji:j=i
    · subst hji; exact ⟨_,_,readV_step hi (hy _ σ (not_dep hcl hr) H.here),H⟩
    · obtain ⟨fr2,σ2,h1,h2⟩:=H.2.2 j (ready_mono hj hji)
      obtain ⟨hjun,oj,hoj,hall⟩:=mem_ready.1 hj
      have hnot:∀e∈oj.after,Region.binds .any e=true→e.on≠i:=fun e he hb heq=>by
        have h1:=hall e he hb
        have h0:=(mem_ready.1 hr).1
        rw [heq] at h1
        rcases Nat.lt_or_ge i listed.size with h' | h'
        · simp [h'] at h0 h1; rw [h0] at h1; cases h1
        · simp [Array.getElem?_eq_none h'] at h1
      obtain ⟨a1,a2,a3⟩:=Oper.apart_spec (hfree j oj hoj hji hjun hnot)
      rw [stepA_put hoj a1 fun d hd=>a2 d hd] at h1
      obtain ⟨⟨fr3,σ3⟩,h3,h4⟩:=map_some h1
      simp only [Prod.mk.injEq] at h4
      obtain ⟨rfl,rfl⟩:=h4
      have hfree' : ∀ k ok, ops[k]? = some ok → k ≠ i → (listed.setIfInBounds j true).getD k true = false →
          (∀e∈ok.after,Region.binds .any e=true→e.on≠i)→oi.apart ops ok=true:=fun k ok hk hki hun hno=>by
        refine hfree k ok hk hki ?_ hno
        by_cases hjk:j=k
        · subst hjk; exact hjun
        · rw [getD_set_ne true hjk] at hun; exact hun
      refine ⟨fr3,σ3,h3,ih (listed.setIfInBounds j true) fr3 σ3 (hcl.set hj) hfree' (ready_mono hr (Ne.symm hji)) (fun L s hL hs=>readV_agree hi (stepA_agree hoj h3 fun d hd=>a3 d hd) (hy L s hL hs)) hJ ?_⟩
      rw [Array.setIfInBounds_comm _ _ hji]
      exact h2
theorem readV_nondep {i:Nat} {o:Oper} (hi:ops[i]? = some o) (hr:readerOp cfg f o=true) (hd:depA ops i fr=false) (h:readV C P cfg f ops i fr σ=some v) (s:St):readV C P cfg f ops i fr s=some v:=by
  unfold readV at h ⊢
  rw [hi] at h ⊢
  dsimp only at h ⊢
  split at h
  · split at h
    · rename_i hc
      simp only [hc,if_true]
      rw [←h]
      exact nondep_eq hi hr hd s
    · cases h
  · exact h
  · cases h
def Chk (cfg:Cfg) (f:FuncId) (ops:Array Oper) (chk:List (Nat×(St→Bool))) (L:Array Bool) (s:St):Prop:=∀c∈chk,Dep cfg f ops L c.1∨c.2 s=true
theorem Chk.less {chk:List (Nat×(St→Bool))} {L:Array Bool} {i:Nat} (hr:isReader cfg f ops i=true) {s:St} (h:Chk cfg f ops chk (L.setIfInBounds i true) s):Chk cfg f ops chk L s:=by
  intro c hc
  rcases h c hc with ⟨j,hj,hn,hk⟩ | h
  · rcases getD_set_cases hj with rfl | hj
    · rw [hr] at hn; cases hn
    · exact .inl ⟨j,hj,hn,hk⟩
  · exact .inr h
def PlanP (cfg:Cfg) (f:FuncId) (ops:Array Oper):List Nat→Array Bool→Prop
  | [],listed=>Region.ready .any ops listed=[]
  | i :: rest,listed=>i∈Region.ready .any ops listed ∧
    (∀oi,ops[i]? = some oi→isReader cfg f ops i=true→∀j oj,ops[j]? = some oj→j≠i→listed.getD j true=false→(∀e∈oj.after,Region.binds .any e=true→e.on≠i)→oi.apart ops oj=true) ∧
    (isReader cfg f ops i=false→∀j∈Region.ready .any ops listed,j=i)∧PlanP cfg f ops rest (listed.setIfInBounds i true)
theorem evPlan_any : ∀ (l : List Nat) (m : Nat) (listed : Array Bool) (fr : Fr) (σ : St) (chk : List (Nat × (St → Bool))), l.length ≤ m → PlanP cfg f ops l listed → Closed ops listed → (∀ c ∈ chk, c.2 σ = true) →
    evPlan C P cfg f ops l fr σ chk=some R→AnyJ C P cfg f ops (Chk cfg f ops chk) R m listed fr σ
  | [],m,listed,fr,σ,chk,_,hp,_,hc,h=>by
    simp only [PlanP] at hp
    simp only [evPlan,Option.some.injEq] at h
    cases m with
    | zero=>exact ⟨hp,h,fun c hm => .inr (hc c hm)⟩
    | succ m=>exact ⟨fun c hm => .inr (hc c hm),fun _=>h,fun i hi=>by rw [hp] at hi; cases hi⟩
  | i :: rest,0,listed,fr,σ,chk,hm,_,_,_,_=>by simp at hm
  | i :: rest,m + 1,listed,fr,σ,chk,hm,hp,hcl,hc,h=>by
    have hm':rest.length≤m:=by simpa using hm
    obtain ⟨hready,hfr,hmv,hrest⟩:=hp
    simp only [evPlan] at h
    by_cases hr:isReader cfg f ops i=true
    · simp only [hr,if_true] at h
      cases hv:readV C P cfg f ops i fr σ with
      | none=>rw [hv] at h; cases h
      | some v =>
        rw [hv] at h
        dsimp only at h
        have ho:∃o,ops[i]? = some o∧readerOp cfg f o=true:=by
          have hr':=hr
          unfold isReader at hr'
          split at hr'
          · rename_i o ho; exact ⟨o,ho,hr'⟩
          · cases hr'
        obtain ⟨o,ho,hro⟩:=ho
        have hdst:dstOf ops i=o.dst:=by simp [dstOf,ho]
        rw [hdst] at h
        have hfree:=hfr o ho hr
        by_cases hd:depA ops i fr=true
        · simp only [hd,if_true] at h
          have H:=evPlan_any rest m _ _ _ _ hm' hrest (hcl.set hready) (fun c hcm=>by
            rcases List.mem_cons.1 hcm with rfl | hcm
            · simp only [hv,sameV,beq_refl]
            · exact hc c hcm) h
          refine AnyJ.mono (fun L s _ hs c hcm=>hs c (List.mem_cons_of_mem _ hcm)) (AnyJ.first ho m listed fr σ hcl hfree hready (fun L s hL hs => ?_) (fun L s hs=>hs.less hr) H)
          rcases hs _ (List.mem_cons_self) with hdep | hsame
          · exact (hL hdep).elim
          · dsimp only at hsame
            unfold sameV at hsame
            split at hsame
            · rename_i u hu; rw [hu,beq_eq hsame]
            · cases hsame
        · have hd':depA ops i fr=false:=by simpa using hd
          simp only [hd',Bool.false_eq_true,if_false] at h
          have H:=evPlan_any rest m _ _ _ _ hm' hrest (hcl.set hready) hc h
          exact AnyJ.first ho m listed fr σ hcl hfree hready (fun L s _ _=>readV_nondep ho hro hd' hv s) (fun L s hs=>hs.less hr) H
    · simp only [hr,if_false,Bool.false_eq_true] at h
      cases hs:stepA C P cfg f ops i fr σ with
      | none=>rw [hs] at h; cases h
      | some r =>
        obtain ⟨fr',σ'⟩:=r
        rw [hs] at h
        dsimp only at h
        split at h
        case isFalse=>cases h
        rename_i hck
        have H:=evPlan_any rest m _ _ _ _ hm' hrest (hcl.set hready) (fun c hcm=>List.all_eq_true.1 hck c hcm) h
        have hlt:i < listed.size:=by
          have h0:=(mem_ready.1 hready).1
          rcases Nat.lt_or_ge i listed.size with h' | h'
          · exact h'
          · simp [Array.getElem?_eq_none h'] at h0
        refine ⟨fun c hm => .inr (hc c hm),fun he => ?_,fun j hj => ?_⟩
        · rw [he] at hready; cases hready
        have:j=i:=hmv (by simpa using hr) j hj
        subst this
        refine ⟨fr',σ',hs,AnyJ.mono (fun L s hmore hJ c hcm => ?_) H⟩
        by_cases hh:hangsOn ops j c.1=true
        · exact .inl ⟨j,hmore j (by simp [hlt]),by simpa using hr,hh⟩
        · exact hJ c (List.mem_filter.2 ⟨hcm,by simpa using hh⟩)
end
end Go.AM
namespace Go.AM
open Go
theorem under_mono1 {m n:Nat} (hmn:m≤n):∀(a:AV),AV.under m a=true→AV.under n a=true:=by
  intro a
  refine AV.under.induct (motive_2:=fun a=>AV.under m a=true→AV.under n a=true) (motive_1:=fun l=>AV.under.go m l=true→AV.under.go n l=true) ?_ ?_ ?_ ?_ ?_ ?_ ?_ ?_ a
  all_goals (intros; simp_all [AV.under,AV.under.go])
  all_goals omega
theorem under_mono {m n:Nat} (hmn:m≤n) {l:List AV} (h:AV.under.go m l=true):AV.under.go n l=true :=
  under_mem.2 fun a ha=>under_mono1 hmn a (under_mem.1 h a ha)
def G.cut (g:G) (n:Nat):G:={ g with sb:=g.sb.take n }
def St.cut (σ:St) (n:Nat):St:={ σ with stk:=σ.stk.take n }
theorem scalars_under {n:Nat}:∀{l:List AV} {vs:List Value},scalars l=some vs→AV.under.go n l=true
  | [],_,_=>by simp [AV.under.go]
  | a :: l,vs,h=>by
    cases a with
    | s x =>
      simp only [scalars] at h
      obtain ⟨r,h1,_⟩:=map_some h
      simp only [AV.under.go,AV.under,scalars_under h1]; rfl
    | _=>simp [scalars] at h
theorem toV_under {n:Nat} {a:AV} {v:Value} (h:a.toV=some v):AV.under n a=true:=by
  cases a with
  | s x=>rfl
  | agg cs =>
    simp only [AV.toV] at h
    obtain ⟨r,h1,_⟩:=map_some h
    simp only [AV.under]; exact scalars_under h1
  | _=>simp [AV.toV] at h
section
variable {P:Program} {g g' g0 g1 g2:G} {w w' w0:World} {ow ow' ow0 ow1:Own} {σ σ':St} {fr fr':Fr} {tm:Array Value} {a:Act}
theorem PV.cut {o:Nat→Nat→Prop} {n:Nat} {x:AV} {v:Value} (h:PV g w o x v) (hu:AV.under n x=true):PV (g.cut n) w o x v:=by
  have hg:∀{y:AV},AV.under n y=true→V g w y v→V (g.cut n) w y v:=fun hy h=>VL.cut h (by simp only [AV.under.go,hy]; rfl)
  cases x with
  | list fl sz es =>
    cases fl with
    | own=>obtain ⟨h1,a,len,cap,h2,h3⟩:=h; exact ⟨hg rfl h1,a,len,cap,h2,h3⟩
    | uniq =>
      obtain ⟨a,cap,xs,u⟩:=h
      exact ⟨a,cap,xs,{ val:=u.val,le:=u.le,pos:=u.pos,spot:=u.spot,elems:=u.elems,low:=u.low,vl:=u.vl.cut (under_low n (under_cells u.low)),cell:=u.cell,spare:=u.spare,off:=u.off,lt:=u.lt,all:=u.all,nf:=u.nf }⟩
    | sh=>exact hg hu h
    | full=>exact hg hu h
  | _=>exact hg hu h
theorem BoxOK.cut {o:Nat→Nat→Nat→Prop} {n b:Nat} {cs:List AV} {xs:Array Value} {E:TypeId} {fz:Nat×Nat} (h:BoxOK g w o b cs xs E fz) (hu:AV.under.go n cs=true):BoxOK (g.cut n) w o b cs xs E fz where
  obj:=h.obj
  le:=h.le
  val i x hi:=by
    obtain ⟨v,h1,h2,h3⟩:=h.val i x hi
    exact ⟨v,h1,h2.cut (under_mem.1 hu x (List.mem_of_getElem? hi)),h3⟩
  wr:=h.wr
theorem SS.cut (s:SS g w ow σ) (n:Nat):SS (g.cut n) w ow (σ.cut n) where
  slen:=by simp [G.cut,St.cut,s.slen]
  hlen:=s.hlen
  nodup:=s.nodup.sublist (List.Sublist.append (List.take_sublist _ _) (List.Sublist.refl _))
  lt:=s.lt
  stk m cs hm:=by
    simp only [St.cut,List.getElem?_take] at hm
    split at hm
    · rename_i hlt
      obtain ⟨h0,b,xs,E,fz,h1,h2⟩:=s.stk m cs hm
      exact ⟨h0,b,xs,E,fz,by simp only [G.cut,List.getElem?_take,hlt,if_true]; exact h1,h2.cut (under_mono (Nat.le_of_lt hlt) h0)⟩
    · cases hm
  heap m cs hm:=by
    obtain ⟨h0,b,xs,E,fz,h1,h2⟩:=s.heap m cs hm
    exact ⟨h0,b,xs,E,fz,h1,h2.cut (under_low n h0)⟩
  maps m es c hm:=by
    obtain ⟨b,xs,h1,h2⟩:=s.maps m es c hm
    refine ⟨b,xs,h1,h2.obj,h2.size,fun i e hi => ?_,h2.wr⟩
    obtain ⟨x,h3,h4⟩:=h2.val i e hi
    exact ⟨x,h3,VL.cut h4.key (by simp only [AV.under.go,toV_under (n:=n) h4.plain]; rfl),VL.cut h4.val (by simp only [AV.under.go,under_low1 n _ h4.low]; rfl),h4.born,h4.low,h4.plain⟩
  loops m l hm:=by
    obtain ⟨b,q,h1,h2⟩:=s.loops m l hm
    exact ⟨b,q,h1,{ h2 with fr:=h2.fr.cut (under_low n h2.low) }⟩
  iters m l hm:=by
    obtain ⟨b,q,h1,h2⟩:=s.iters m l hm
    exact ⟨b,q,h1,h2.obj,h2.nil,h2.map,h2.wr⟩
  dead m hm:=s.dead m hm
theorem G.cut_isBox {n b:Nat} (h:(g.cut n).isBox b):g.isBox b:=h.imp (fun h=>List.mem_of_mem_take h) id
theorem Rel.cut (r:Rel g w ow fr tm σ) (n:Nat) (hu:AV.under.go n fr=true):Rel (g.cut n) w ow fr tm (σ.cut n) where
  ss:=r.ss.cut n
  own:=⟨r.own.wr,fun p b o h hb=>r.own.box p b o h (G.cut_isBox hb),r.own.one⟩
  sf:=⟨r.sf.size,fun i x hi=>by
    obtain ⟨v,h1,h2⟩:=r.sf.val i x hi
    exact ⟨v,h1,h2.cut (under_mem.1 hu x (List.mem_of_getElem? hi))⟩⟩
theorem take_of_prefix {l l':List Nat} (h:∀(n b:Nat),l[n]? = some b→l'[n]? = some b):l'.take l.length=l:=by
  apply List.ext_getElem?
  intro i
  rw [List.getElem?_take]
  by_cases hi:i < l.length
  · rw [if_pos hi,List.getElem?_eq_getElem hi]
    exact h i _ (List.getElem?_eq_getElem hi)
  · rw [if_neg hi,List.getElem?_eq_none (by omega)]
theorem Way.cut (h:Way g0 w0 ow0 g w ow) {n:Nat} (hn:g0.sb.length=n):Way g0 w0 ow0 (g.cut n) w ow where
  tr:=⟨h.tr.size,h.tr.obj,h.tr.cell,h.tr.live,h.tr.froz,h.tr.wr,fun m b hm=>by
    have:m < n:=hn▸(List.getElem?_eq_some_iff.1 hm).1
    simp only [G.cut,List.getElem?_take,this,if_true]; exact h.tr.sb m b hm,h.tr.hb,h.tr.env⟩
  may b o hm:=h.may b o (hm.imp (fun ⟨h1,h2⟩=>⟨G.cut_isBox h1,h2⟩) id)
  keep:=h.keep
  hbn:=h.hbn
theorem Way.sb_cut (h:Way g0 w0 ow0 g w ow) {n:Nat} (hn:g0.sb.length=n):(g.cut n).sb=g0.sb:=by
  subst hn; exact take_of_prefix h.tr.sb
theorem keep_length:∀(m:List Bool) (fr:Fr),(AM.keep m fr).length=fr.length
  | [],fr=>by simp [AM.keep]
  | true :: m,[]=>by simp [AM.keep]
  | false :: m,[]=>by simp [AM.keep]
  | true :: m,x :: xs=>by simp [AM.keep,keep_length m xs]
  | false :: m,x :: xs=>by simp [AM.keep,keep_length m xs]
theorem keep_get:∀(m:List Bool) (fr:Fr) (i:Nat) (x:AV),(AM.keep m fr)[i]? = some x→∃y,fr[i]? = some y∧(x=y∨x = .undef)
  | [],fr,i,x,h=>⟨x,by simpa [AM.keep] using h,.inl rfl⟩
  | true :: m,[],i,x,h=>by simp [AM.keep] at h
  | false :: m,[],i,x,h=>by simp [AM.keep] at h
  | true :: m,y :: ys,i,x,h=>by
    cases i with
    | zero=>simp [AM.keep] at h; exact ⟨y,rfl,.inl h.symm⟩
    | succ i=>simp only [AM.keep,List.getElem?_cons_succ] at h ⊢; exact keep_get m ys i x h
  | false :: m,y :: ys,i,x,h=>by
    cases i with
    | zero=>simp [AM.keep] at h; exact ⟨y,rfl,.inr h.symm⟩
    | succ i=>simp only [AM.keep,List.getElem?_cons_succ] at h ⊢; exact keep_get m ys i x h
theorem Rel.keep (r:Rel g w ow fr tm σ) (m:List Bool):Rel g w ow (AM.keep m fr) tm σ where
  ss:=r.ss
  own:=r.own
  sf:=⟨by rw [keep_length]; exact r.sf.size,fun i x hi=>by
    obtain ⟨y,h1,h2⟩:=keep_get m fr i x hi
    obtain ⟨v,h3,h4⟩:=r.sf.val i y h1
    rcases h2 with rfl | rfl
    · exact ⟨v,h3,h4⟩
    · exact ⟨v,h3,PV.undef v⟩⟩
def resV (tm:Array Value):ResultVar→Sem Value
  | .tmp t=>pure (tm.getD t undef)
  | .cell x t=>do loadVar t (←asAddr (tm.getD x undef))
theorem cell_run (s : SS g w ow σ) {t : TypeId} {p v : AV} {pv : Value} {s' : St} (h : load P false t p σ = some (v, s')) (hp : V g w p pv) :
    ∃val,(do loadVar t (←asAddr pv):Sem Value).run P w = .ok val w∧V g w v val:=by
  obtain ⟨_,val,h1,h2⟩:=loadAt_run s h hp
  refine ⟨val,?_,h2⟩
  have:∃ad,pv = .pointer (some ad):=by
    unfold load at h
    cases p with
    | ptr r off=>obtain ⟨b,rfl,_⟩:=hp.ptr_inv; exact ⟨_,rfl⟩
    | rop cs=>cases hp with | rop=>exact ⟨_,rfl⟩
    | _ =>
      split at h
      · split at h
        · cases h
        · simp [readCells] at h
      · simp [readCells] at h
      · cases h
  obtain ⟨ad,rfl⟩:=this
  exact h1
theorem result_run (r:Rel g w ow fr tm σ) {x:ResultVar} {v:AV} (h:resultA P fr σ x=some v):∃val o,(resV tm x).run P w = .ok val w∧PV g w o v val∧(o=Nobody∨∃t,o=ow (.slot t)):=by
  cases x with
  | tmp t =>
    simp only [resultA,Option.some.injEq] at h; subst h
    exact ⟨_,ow (.slot t),rfl,r.sf.getD t,.inr ⟨t,rfl⟩⟩
  | cell x t =>
    simp only [resultA] at h
    obtain ⟨⟨u,s'⟩,h1,h2⟩:=map_some h
    dsimp only at h2; subst h2
    have hp:V g w (AV.look (fr.getD x .undef)) (tm.getD x undef):=(r.sf.getD x).look
    have h1':load P false t (AV.look (fr.getD x .undef)) σ=some (u,s'):=by
      have:∀{y:AV},load P false t y σ=some (u,s')→load P false t y.look σ=some (u,s'):=by
        intro y hy
        cases y with
        | list fl sz es =>
          unfold load at hy
          split at hy
          · split at hy
            · cases hy
            · simp [readCells] at hy
          · simp [readCells] at hy
          · cases hy
        | _=>exact hy
      exact this h1
    obtain ⟨val,h3,h4⟩:=cell_run r.ss h1' hp
    exact ⟨val,Nobody,h3,PV.of h4,.inl rfl⟩
theorem results_run (r:Rel g w ow fr tm σ):∀{l:List ResultVar} {vs:List AV},resultsA P fr σ l=some vs→∃vals,(l.mapM (resV tm)).run P w = .ok vals w∧VL g w (vs.map AV.look) vals
  | [],vs,h=>by
    simp only [resultsA,Option.some.injEq] at h; subst h
    exact ⟨[],rfl,.nil⟩
  | x :: l,vs,h=>by
    simp only [resultsA] at h
    split at h
    · rename_i v vs' h1 h2
      injection h with h; subst h
      obtain ⟨val,o,h3,h4,_⟩:=result_run r h1
      obtain ⟨vals,h5,h6⟩:=results_run r h2
      refine ⟨val :: vals,?_,VL.cons_of h4.look h6⟩
      rw [List.mapM_cons,Sem.run_bind,h3]
      simp only [Result.andThen_ok,Sem.run_bind,h5]
      rfl
    · cases h
theorem results_eq (fn:Func) (tm:Array Value):results fn tm=(do let vs ←fn.results.toList.mapM (resV tm); pure (if h:vs.toArray.size=1 then vs.toArray[0] else .tuple vs.toArray)):=by
  have e:results fn tm=(fn.results.mapM (resV tm) >>= fun vs=>pure (if h:vs.size=1 then vs[0] else .tuple vs)):=by
    unfold results
    refine congrArg (fun (f:ResultVar→Sem Value)=>Array.mapM f fn.results >>= fun vs=>(pure (if h:vs.size=1 then vs[0] else Value.tuple vs):Sem Value)) (funext fun x => ?_)
    cases x <;> rfl
  rw [e]
  conv=>lhs; rw [←Array.toArray_toList (xs:=fn.results),List.mapM_toArray]
  simp
theorem look_under {n:Nat} {x:AV} (h:AV.under n x=true):AV.under n x.look=true:=by
  cases x with
  | list fl sz es=>cases fl <;> rfl
  | _=>exact h
theorem finish_run {fn : Func} {base : Nat} {v : AV} (r : Rel g w ow fr tm σ) (W : Way g0 w0 ow0 g w ow) (hb : g0.sb.length = base) (h : finish P base fn fr σ = some (v, σ')) :
    ∃rv g' ow',(results fn tm).run P w = .ok rv w∧Ret g0 w0 ow0 v σ' rv g' w ow':=by
  unfold finish at h
  split at h
  · rename_i x hx
    split at h
    case isFalse=>cases h
    rename_i hu
    simp only [Option.some.injEq,Prod.mk.injEq] at h
    obtain ⟨rfl,rfl⟩:=h
    have hl:∃z,fn.results.toList=[z]∧resultA P fr σ z=some x:=by
      match hz:fn.results.toList with
      | []=>rw [hz] at hx; simp [resultsA] at hx
      | [z] =>
        rw [hz] at hx
        simp only [resultsA] at hx
        split at hx
        · rename_i v vs h1 h2
          simp only [Option.some.injEq] at h2 hx; subst h2
          simp only [List.cons.injEq,and_true] at hx; subst hx
          exact ⟨z,rfl,h1⟩
        · cases hx
      | z :: z' :: l =>
        rw [hz] at hx
        simp only [resultsA] at hx
        split at hx
        · rename_i h1 h2
          split at h2
          · simp only [Option.some.injEq] at h2 hx; subst h2; simp at hx
          · cases h2
        · cases hx
    obtain ⟨z,hz,hz1⟩:=hl
    obtain ⟨val,o,h1,h2,h3⟩:=result_run r hz1
    have hrun:(results fn tm).run P w = .ok val w:=by
      rw [results_eq,hz,List.mapM_cons,List.mapM_nil]
      simp only [Sem.run_bind,h1,Result.andThen_ok]
      rfl
    let ow':Own:=fun p=>match p with | .slot 0=>o | .slot _=>Nobody | p=>ow p
    have ho:∀p b i,ow' p b i→ow p b i∨o b i∧p = .slot 0:=by
      intro p b i hp
      cases p with
      | slot j =>
        cases j with
        | zero=>exact .inr ⟨hp,rfl⟩
        | succ j=>exact (show Nobody b i from hp).elim
      | stk m j=>exact .inl hp
      | heap m j=>exact .inl hp
    have hown:∀b i,o b i→∃t,ow (.slot t) b i:=by
      intro b i hi
      rcases h3 with rfl | ⟨t,rfl⟩
      · exact hi.elim
      · exact ⟨t,hi⟩
    have hmem:∀p b i,ow' p b i→∃q,ow q b i:=fun p b i hp=>(ho p b i hp).elim (fun h=>⟨p,h⟩) fun h=>let ⟨t,ht⟩:=hown b i h.1; ⟨_,ht⟩
    have hone:∀p q b i,ow' p b i→ow' q b i→p=q:=by
      intro p q b i hp hq
      cases p with
      | slot j =>
        cases j with
        | succ j=>exact (show Nobody b i from hp).elim
        | zero =>
          obtain ⟨t,ht⟩:=hown b i hp
          cases q with
          | slot k =>
            cases k with
            | zero=>rfl
            | succ k=>exact (show Nobody b i from hq).elim
          | stk m k=>exact Pl.noConfusion (r.own.one _ _ _ _ ht (show ow (.stk m k) b i from hq))
          | heap m k=>exact Pl.noConfusion (r.own.one _ _ _ _ ht (show ow (.heap m k) b i from hq))
      | stk m j =>
        cases q with
        | slot k =>
          cases k with
          | zero=>obtain ⟨t,ht⟩:=hown b i hq; exact Pl.noConfusion (r.own.one _ _ _ _ ht (show ow (.stk m j) b i from hp))
          | succ k=>exact (show Nobody b i from hq).elim
        | stk m' k=>exact r.own.one _ _ _ _ (show ow (.stk m j) b i from hp) (show ow (.stk m' k) b i from hq)
        | heap m' k=>exact r.own.one _ _ _ _ (show ow (.stk m j) b i from hp) (show ow (.heap m' k) b i from hq)
      | heap m j =>
        cases q with
        | slot k =>
          cases k with
          | zero=>obtain ⟨t,ht⟩:=hown b i hq; exact Pl.noConfusion (r.own.one _ _ _ _ ht (show ow (.heap m j) b i from hp))
          | succ k=>exact (show Nobody b i from hq).elim
        | stk m' k=>exact r.own.one _ _ _ _ (show ow (.heap m j) b i from hp) (show ow (.stk m' k) b i from hq)
        | heap m' k=>exact r.own.one _ _ _ _ (show ow (.heap m j) b i from hp) (show ow (.heap m' k) b i from hq)
    have r1:Rel g w ow' [x] #[val] σ:={
      ss:=r.ss.own (fun _ _ _ _ h=>h) fun _ _ _ _ h=>h
      own:=⟨fun p b i hp=>let ⟨q,hq⟩:=hmem p b i hp; r.own.wr _ _ _ hq,fun p b i hp=>let ⟨q,hq⟩:=hmem p b i hp; r.own.box _ _ _ hq,hone⟩
      sf:=⟨rfl,fun i y hi=>by
        cases i with
        | zero=>simp at hi; subst hi; exact ⟨val,rfl,h2⟩
        | succ i=>simp at hi⟩ }
    refine ⟨val,g.cut base,ow',hrun,r1.cut base (by simp only [AV.under.go,hu]; rfl),?_,W.sb_cut hb⟩
    have W':Way g w ow g w ow':=⟨Tr.refl _ _ _,fun b i hm => .inl (hm.imp id fun ⟨p,hp⟩=>hmem p b i hp),fun _ _ h => .inr h,fun _ h => .inl h⟩
    have W2:Way g0 w0 ow0 g w ow':=⟨W.tr,fun b i hm=>W.may b i (hm.imp id fun ⟨p,hp⟩=>hmem p b i hp),W.keep,W.hbn⟩
    exact W2.cut hb
  · rename_i vs hne hx
    split at h
    case isFalse=>cases h
    rename_i hu
    simp only [Option.some.injEq,Prod.mk.injEq] at h
    obtain ⟨rfl,rfl⟩:=h
    obtain ⟨vals,h1,h2⟩:=results_run r hx
    have hlen:vs.length≠1:=fun e=>by
      match vs,e with
      | [y],_=>exact hne y rfl
    have hlv:vals.length=vs.length:=by have:=h2.length; simpa using this
    have hrun:(results fn tm).run P w = .ok (.tuple vals.toArray) w:=by
      rw [results_eq]
      simp only [Sem.run_bind,h1,Result.andThen_ok]
      rw [dif_neg (by simp; omega)]
      rfl
    let ow':Own:=fun p=>match p with | .slot _=>Nobody | p=>ow p
    have hsub:∀p b i,ow' p b i→ow p b i:=by
      intro p b i hp
      cases p with
      | slot j=>exact (show Nobody b i from hp).elim
      | stk m j=>exact hp
      | heap m j=>exact hp
    have r1:Rel g w ow' [.tup (vs.map AV.look)] #[.tuple vals.toArray] σ:={
      ss:=r.ss.own (fun _ _ _ _ h=>h) fun _ _ _ _ h=>h
      own:=⟨fun p b i hp=>r.own.wr _ _ _ (hsub _ _ _ hp),fun p b i hp=>r.own.box _ _ _ (hsub _ _ _ hp),fun p q b i hp hq=>r.own.one _ _ _ _ (hsub _ _ _ hp) (hsub _ _ _ hq)⟩
      sf:=⟨rfl,fun i y hi=>by
        cases i with
        | zero=>simp at hi; subst hi; exact ⟨_,rfl,PV.of (.tup (by simpa using h2) .nil)⟩
        | succ i=>simp at hi⟩ }
    have hu':AV.under.go base (vs.map AV.look)=true:=under_mem.2 fun y hy=>by
      obtain ⟨z,hz,rfl⟩:=List.mem_map.1 hy
      exact look_under (under_mem.1 hu z hz)
    refine ⟨.tuple vals.toArray,g.cut base,ow',hrun,r1.cut base (by simp only [AV.under.go,AV.under,hu']; rfl),?_,W.sb_cut hb⟩
    have W2:Way g0 w0 ow0 g w ow':=⟨W.tr,fun b i hm=>W.may b i (hm.imp id fun ⟨p,hp⟩=>⟨p,hsub _ _ _ hp⟩),W.keep,W.hbn⟩
    exact W2.cut hb
  · cases h
end
end Go.AM
namespace Go.AM
open Go
section
variable {P:Program} {g g' g0 g1 g2:G} {w w' w0 w1:World} {ow ow' ow0 ow1:Own} {σ σ':St} {fr fr':Fr} {tm:Array Value}
theorem putObj_get {b:Nat} {o:Obj} (h:b < w.heap.size) (b':Nat):(w.putObj b o).heap[b']? = if b'=b then some o else w.heap[b']? := by
  by_cases e:b'=b
  · subst e; rw [if_pos rfl,World.putObj_heap_same h]
  · rw [if_neg e,World.putObj_heap_other e]
theorem putObj_size (w:World) (b:Nat) (o:Obj):(w.putObj b o).heap.size=w.heap.size:=by simp [World.putObj]
def NoCells (o:Obj):Prop:=∀c E fz,o≠.cells c E fz
theorem putObj_cell {b:Nat} {o o':Obj} (h:w.heap[b]? = some o) (h1:NoCells o) (h2:NoCells o') (a:Addr):(w.putObj b o').cell? a=w.cell? a:=by
  have hb:=(Array.getElem?_eq_some_iff.1 h).1
  unfold World.cell?
  rw [putObj_get hb]
  by_cases e:a.block=b
  · rw [if_pos e,e,h]
    cases o <;> cases o' <;> first | rfl | exact (h1 _ _ _ rfl).elim | exact (h2 _ _ _ rfl).elim
  · rw [if_neg e]
theorem putObj_frozen {b:Nat} {o o':Obj} (h:w.heap[b]? = some o) (h1:NoCells o) (h2:NoCells o') (a:Addr):(w.putObj b o').frozen? a=w.frozen? a:=by
  have hb:=(Array.getElem?_eq_some_iff.1 h).1
  unfold World.frozen?
  rw [putObj_get hb]
  by_cases e:a.block=b
  · rw [if_pos e,e,h]
    cases o <;> cases o' <;> first | rfl | exact (h1 _ _ _ rfl).elim | exact (h2 _ _ _ rfl).elim
  · rw [if_neg e]
theorem Tr.putObj {b:Nat} {o o':Obj} (h:w.heap[b]? = some o) (h1:NoCells o) (h2:NoCells o'):Tr (fun b' i=>b'=b∧i=0) g w g (w.putObj b o') where
  size:=by rw [putObj_size]; exact Nat.le_refl _
  obj b' hb' hm:=by
    have e:b'≠b:=fun e=>hm 0 ⟨e,rfl⟩
    rw [World.putObj_heap_other e]
  cell b' i _ _:=putObj_cell h h1 h2 _
  live b' i v hv:=⟨v,by rw [putObj_cell h h1 h2]; exact hv⟩
  froz b' i _:=putObj_frozen h h1 h2 _
  wr _ _ h := .inl h
  sb _ _ h:=h
  hb _ _ h:=h
  env := .r
theorem Rel.setObj (r : Rel g w ow fr tm σ) {h b : Nat} {o o' : Obj} {ho : HObj} (hl : h < σ.heap.length) (hb : g.hb[h]? = some b) (hw : w.heap[b]? = some o) (h1 : NoCells o) (h2 : NoCells o') (hwr : g.wr b 0)
    (hc:∀cs,ho≠.cells cs) (hm:∀es c,ho≠.map es c) (hlp:∀l,ho = .loop l→∃q,LoopOK g (w.putObj b o') b l q) (hit:∀i,ho = .iter i→∃m,IterOK g (w.putObj b o') b i m) :
    Rel g (w.putObj b o') ow fr tm { σ with heap:=σ.heap.set h ho }∧Way g w ow g (w.putObj b o') ow:=by
  have hisb:g.isBox b := .inr (List.mem_of_getElem? hb)
  have t:Tr (fun b' i=>b'=b∧i=0) g w g (w.putObj b o'):=Tr.putObj hw h1 h2
  have hMw:∀b' i,(b'=b∧i=0)→b'=b∧g.wr b' i:=fun b' i ⟨e1,e2⟩=>⟨e1,by rw [e1,e2]; exact hwr⟩
  obtain ⟨n1,n2,n3⟩:=nodup_ref r.ss.nodup
  refine ⟨⟨?_,r.own,r.sf.later t (fun b' o h=>(hMw b' o h).2) (fun i b' x h h'=>r.own.box _ _ _ h (h'.1▸hisb)) fun _ _ _ h=>h⟩,
    ⟨t.weaken fun b' o h => .inl ⟨(hMw _ _ h).1▸hisb,(hMw _ _ h).2⟩,fun _ _ h => .inl h,fun _ _ h => .inr h,fun _ h => .inl h⟩⟩
  refine r.ss.replace r.own hisb t hMw (fun b' o h=>t.lt (r.ss.lt _ _ h)) rfl rfl (fun _ _ _ _ h=>h) rfl (by simp) ?_ ?_ ?_ ?_ ?_ (fun _ _=>rfl) ?_ (fun _ _ _ _ _ h=>h) (fun _ _ _ _ _ h=>h)
  · intro n cs _ hmb; exact (n3 _ _ _ hmb hb).elim
  · intro n cs hn hmb
    obtain rfl:=n2 _ _ _ hmb hb
    rw [List.getElem?_set_self hl] at hn
    exact (hc cs (Option.some.inj hn)).elim
  · intro n es c hn hmb
    obtain rfl:=n2 _ _ _ hmb hb
    rw [List.getElem?_set_self hl] at hn
    exact (hm es c (Option.some.inj hn)).elim
  · intro n l hn hmb
    obtain rfl:=n2 _ _ _ hmb hb
    rw [List.getElem?_set_self hl] at hn
    exact hlp l (Option.some.inj hn)
  · intro n l hn hmb
    obtain rfl:=n2 _ _ _ hmb hb
    rw [List.getElem?_set_self hl] at hn
    exact hit l (Option.some.inj hn)
  · intro n hne
    have e:h≠n:=fun e=>hne (e▸hb)
    show (σ.heap.set h ho)[n]? = _
    rw [List.getElem?_set_ne e]
theorem noCells_loop (r:Loop):NoCells (.loop r):=fun _ _ _ h=>by cases h
theorem noCells_deferred (d:Option (List Deferred)):NoCells (.deferred d):=fun _ _ _ h=>by cases h
theorem Rel.setLoop (r : Rel g w ow fr tm σ) {h b : Nat} {l l' : LoopA} {q q' : Loop} (hh : σ.heap[h]? = some (.loop l)) (hb : g.hb[h]? = some b) (hq : LoopOK g w b l q)
    (h1:q'.params.toList=l'.params) (h2:q'.assign=l'.assign) (h3:q'.body=l'.body) (h4:q'.state=loopState l') (h5:q'.pending=l'.pending.map Ex.toCode) (h6:l'.fr=l.fr) (h7:q'.tmps=q.tmps) :
    Rel g (w.putObj b (.loop q')) ow fr tm (AM.setLoop σ h l')∧Way g w ow g (w.putObj b (.loop q')) ow:=by
  refine r.setObj (ho := .loop l') (List.getElem?_eq_some_iff.1 hh).1 hb hq.obj (noCells_loop _) (noCells_loop _) hq.wr (fun _ h=>by cases h) (fun _ _ h=>by cases h) (fun l'' e=>⟨q',?_⟩) (fun _ h=>by cases h)
  injection e with e; subst e
  have hbl:=(Array.getElem?_eq_some_iff.1 hq.obj).1
  have t:Tr (fun b' i=>b'=b∧i=0) g w g (w.putObj b (.loop q')):=Tr.putObj hq.obj (noCells_loop _) (noCells_loop _)
  exact { obj:=World.putObj_heap_same hbl,params:=h1,assign:=h2,body:=h3,state:=h4,pending:=h5,fr:=by rw [h6,h7]; exact hq.fr.later (t.later fun b' i ⟨e1,e2⟩=>by rw [e1,e2]; exact hq.wr),low:=by rw [h6]; exact hq.low,wr:=hq.wr }
theorem Rel.killLoop (r : Rel g w ow fr tm σ) {h b : Nat} {l : LoopA} {q q' : Loop} (hh : σ.heap[h]? = some (.loop l)) (hb : g.hb[h]? = some b) (hq : LoopOK g w b l q) :
    Rel g (w.putObj b (.loop q')) ow fr tm { σ with heap:=σ.heap.set h .dead }∧Way g w ow g (w.putObj b (.loop q')) ow :=
  r.setObj (ho := .dead) (List.getElem?_eq_some_iff.1 hh).1 hb hq.obj (noCells_loop _) (noCells_loop _) hq.wr (fun _ h=>by cases h) (fun _ _ h=>by cases h) (fun _ h=>by cases h) (fun _ h=>by cases h)
theorem Rel.other_new (r:Rel g w ow fr tm σ) (o:Obj):Rel g (w.alloc o) ow fr tm σ∧Way g w ow g (w.alloc o) ow:=by
  have t:Tr Nought g w ⟨g.sb,g.hb,fun b i=>g.wr b i∨b=w.heap.size∧False⟩ (w.alloc o):=Tr.new (ob:=o) rfl (X:=fun _=>False) (fun _ _ h=>h) (fun _ _ h=>h)
  have t':Tr Nought g w g (w.alloc o):=⟨t.size,t.obj,t.cell,t.live,t.froz,fun _ _ h => .inl h,t.sb,t.hb,t.env⟩
  exact ⟨⟨r.ss.still t' (fun b i h=>t'.lt (r.ss.lt _ _ h)) rfl rfl (fun _ _ _ h=>h) (fun _ _ _ _ h=>h) (fun _ _ _ _ h=>h),r.own,r.sf.later t' (fun _ _ h=>h.elim) (fun _ _ _ _ h=>h) fun _ _ _ h=>h⟩,
    ⟨t'.weaken fun _ _ h=>h.elim,fun _ _ h => .inl h,fun _ _ h => .inr h,fun _ h => .inl h⟩⟩
theorem Rel.newLoop (r : Rel g w ow fr tm σ) {l : LoopA} {q : Loop} (h1 : q.params.toList = l.params) (h2 : q.assign = l.assign) (h3 : q.body = l.body) (h4 : q.state = loopState l) (h5 : q.pending = l.pending.map Ex.toCode)
    (h6:VL g w l.fr q.tmps.toList) (h7:AV.under.go 0 l.fr=true) :
    ∃g',Rel g' (w.alloc (.loop q)) ow fr tm { σ with heap:=σ.heap ++ [.loop l] }∧Way g w ow g' (w.alloc (.loop q)) ow∧g'.hb[σ.heap.length]? = some w.heap.size∧g'.sb=g.sb∧(∀b o,g'.wr b o→g.wr b o∨b=w.heap.size):=by
  have hnew:(w.alloc (.loop q)).heap[w.heap.size]? = some (.loop q):=by
    show (w.heap.push _)[w.heap.size]? = _
    simp
  have t:Tr Nought g w ⟨g.sb,g.hb ++ [w.heap.size],fun b o=>g.wr b o∨b=w.heap.size∧o=0⟩ (w.alloc (.loop q)):=Tr.new (ob := .loop q) rfl (X:=fun o=>o=0) (fun _ _ h=>h) (fun n b hn=>by rw [List.getElem?_append_left (List.getElem?_eq_some_iff.1 hn).1]; exact hn)
  have hlt:∀{b:Nat},g.isBox b→b≠w.heap.size:=fun hb e=>by have:=G.isBox_lt r.ss hb; omega
  have hib:∀b,(⟨g.sb,g.hb ++ [w.heap.size],fun b o=>g.wr b o∨b=w.heap.size∧o=0⟩:G).isBox b→g.isBox b∨b=w.heap.size:=fun b hb=>by
    rcases hb with hb | hb
    · exact .inl (.inl hb)
    · rcases List.mem_append.1 hb with hb | hb
      · exact .inl (.inr hb)
      · exact .inr (by simpa using hb)
  have hown:∀p b o,ow p b o→b < w.heap.size:=fun p b o h=>r.ss.lt _ _ (r.own.wr _ _ _ h)
  have at_new:∀{n:Nat} {x:HObj},(σ.heap ++ [HObj.loop l])[n]? = some x→σ.heap[n]? = some x∧n < σ.heap.length∨n=σ.heap.length∧x = .loop l:=by
    intro n x hn
    by_cases e:n < σ.heap.length
    · rw [List.getElem?_append_left e] at hn; exact .inl ⟨hn,e⟩
    · have e':n=σ.heap.length:=by
        have:=(List.getElem?_eq_some_iff.1 hn).1
        simp at this; omega
      subst e'
      rw [List.getElem?_append_right (Nat.le_refl _)] at hn
      simp at hn
      exact .inr ⟨rfl,hn.symm⟩
  have s':SS ⟨g.sb,g.hb ++ [w.heap.size],fun b o=>g.wr b o∨b=w.heap.size∧o=0⟩ (w.alloc (.loop q)) ow { σ with heap:=σ.heap ++ [.loop l] }:={
    slen:=r.ss.slen
    hlen:=by simp [r.ss.hlen]
    nodup:=by
      show (g.sb ++ (g.hb ++ [w.heap.size])).Nodup
      rw [←List.append_assoc]
      refine List.nodup_append.2 ⟨r.ss.nodup,by simp,fun a ha b hb => ?_⟩
      rw [List.mem_singleton.1 hb]
      exact hlt ((List.mem_append.1 ha).imp id id)
    lt:=fun b o h=>by
      rcases h with h | h
      · exact t.lt (r.ss.lt _ _ h)
      · rw [h.1]; show w.heap.size < (w.heap.push _).size; simp
    stk:=fun n c hn=>by
      obtain ⟨h0,b,xs,E,fz,k1,k2⟩:=r.ss.stk n c hn
      exact ⟨h0,b,xs,E,fz,k1,k2.still t (fun i b x h=>h) fun o h => .inl h⟩
    heap:=fun n c hn=>by
      rcases at_new hn with ⟨hn,_⟩ | ⟨_,e⟩
      · obtain ⟨h0,b,xs,E,fz,k1,k2⟩:=r.ss.heap n c hn
        exact ⟨h0,b,xs,E,fz,t.hb _ _ k1,k2.still t (fun i b x h=>h) fun o h => .inl h⟩
      · cases e
    maps:=fun n es c hn=>by
      rcases at_new hn with ⟨hn,_⟩ | ⟨_,e⟩
      · obtain ⟨b,xs,k1,k2⟩:=r.ss.maps n es c hn
        exact ⟨b,xs,t.hb _ _ k1,k2.still t fun o h => .inl h⟩
      · cases e
    loops:=fun n l' hn=>by
      rcases at_new hn with ⟨hn,_⟩ | ⟨rfl,e⟩
      · obtain ⟨b,k,k1,k2⟩:=r.ss.loops n l' hn
        exact ⟨b,k,t.hb _ _ k1,k2.still t fun o h => .inl h⟩
      · injection e with e; subst e
        exact ⟨w.heap.size,q,by simp [←r.ss.hlen],{ obj:=hnew,params:=h1,assign:=h2,body:=h3,state:=h4,pending:=h5,fr:=h6.later (t.later fun _ _ h=>h.elim),low:=h7,wr := .inr ⟨rfl,rfl⟩ }⟩
    iters:=fun n l' hn=>by
      rcases at_new hn with ⟨hn,_⟩ | ⟨rfl,e⟩
      · obtain ⟨b,k,k1,k2⟩:=r.ss.iters n l' hn
        exact ⟨b,k,t.hb _ _ k1,k2.still t fun o h => .inl h⟩
      · cases e
    dead:=fun n hn=>by
      rcases at_new hn with ⟨hn,_⟩ | ⟨_,e⟩
      · obtain ⟨b,k1,k2⟩:=r.ss.dead n hn
        exact ⟨b,t.hb _ _ k1,t.lt k2⟩
      · cases e }
  have o':OW ⟨g.sb,g.hb ++ [w.heap.size],fun b o=>g.wr b o∨b=w.heap.size∧o=0⟩ ow:=⟨fun p b o h => .inl (r.own.wr _ _ _ h),fun p b o h hb=>(hib b hb).elim (r.own.box _ _ _ h) fun e=>by have:=hown _ _ _ h; omega,r.own.one⟩
  refine ⟨_,⟨s',o',r.sf.later t (fun _ _ h=>h.elim) (fun _ _ _ _ h=>h) fun _ _ _ h=>h⟩,⟨t.weaken fun _ _ h=>h.elim,fun b o hm => ?_,fun _ _ h => .inr (.inl h),fun b hb=>(List.mem_append.1 hb).imp id fun h=>Nat.le_of_eq ((List.mem_singleton.1 h).symm)⟩,by simp [←r.ss.hlen],rfl,fun b o h=>h.imp id fun h=>h.1⟩
  rcases hm with ⟨hb,hw⟩ | hm
  · rcases hib b hb with hb | hb
    · rcases hw with hw | hw
      · exact .inl (.inl ⟨hb,hw⟩)
      · exact .inr (Nat.le_of_eq hw.1.symm)
    · exact .inr (Nat.le_of_eq hb.symm)
  · exact .inl (.inr hm)
theorem Rel.other_put (r:Rel g w ow fr tm σ) {b:Nat} {d d':Option (List Deferred)} (h:w.heap[b]? = some (.deferred d)):Rel g (w.putObj b (.deferred d')) ow fr tm σ:=by
  have hbl:=(Array.getElem?_eq_some_iff.1 h).1
  have t:Tr (fun b' i=>b'=b∧i=0) g w g (w.putObj b (.deferred d')):=Tr.putObj h (noCells_deferred _) (noCells_deferred _)
  have hcell:∀a,(w.putObj b (.deferred d')).cell? a=w.cell? a:=putObj_cell h (noCells_deferred _) (noCells_deferred _)
  have hfroz:∀a,(w.putObj b (.deferred d')).frozen? a=w.frozen? a:=putObj_frozen h (noCells_deferred _) (noCells_deferred _)
  have L:Later g w g (w.putObj b (.deferred d')):=⟨fun _ _ h=>h,fun _ _ h=>h,fun b' i v hv hw=>⟨by rw [hcell]; exact hv,hw⟩⟩
  have hsp:∀{o:Nat→Nat→Prop} {a:Addr} {lo hi:Nat},Spare w o a lo hi→Spare (w.putObj b (.deferred d')) o a lo hi:=fun hs=>hs.later t
  have hpv:∀{o:Nat→Nat→Prop} {x:AV} {v:Value},PV g w o x v→PV g (w.putObj b (.deferred d')) o x v:=by
    intro o x v hx
    cases x with
    | list fl sz es =>
      cases fl with
      | own=>obtain ⟨k1,a,len,cap,k2,k30,k3⟩:=hx; exact ⟨VL.later L k1,a,len,cap,k2,k30,hsp k3⟩
      | uniq =>
        obtain ⟨a,cap,xs,u⟩:=hx
        exact ⟨a,cap,xs,{ u with vl:=u.vl.later L,cell:=fun i v hi=>by rw [hcell]; exact u.cell i v hi,spare:=hsp u.spare,lt:=t.lt u.lt,nf:=fun hs x=>by rw [t.froz _ _ u.lt]; exact u.nf hs x }⟩
      | sh=>exact VL.later L hx
      | full=>exact VL.later L hx
    | _=>exact VL.later L hx
  have hobj:∀{b':Nat} {o:Obj},w.heap[b']? = some o→(∀d,o≠.deferred d)→(w.putObj b (.deferred d')).heap[b']? = some o:=by
    intro b' o ho hne
    have e:b'≠b:=fun e=>by subst e; rw [h] at ho; exact hne _ (Option.some.inj ho).symm
    rw [World.putObj_heap_other e]; exact ho
  have hbox:∀{o:Nat→Nat→Nat→Prop} {b':Nat} {cs:List AV} {xs:Array Value} {E:TypeId} {fz:Nat×Nat},BoxOK g w o b' cs xs E fz→BoxOK g (w.putObj b (.deferred d')) o b' cs xs E fz:=fun k =>
    { obj:=hobj k.obj (fun _ h=>by cases h),le:=k.le,val:=fun i a hi=>let ⟨v,k1,k2,k3⟩:=k.val i a hi; ⟨v,k1,hpv k2,k3⟩,wr:=k.wr }
  exact {
    ss:={
      slen:=r.ss.slen,hlen:=r.ss.hlen,nodup:=r.ss.nodup
      lt:=fun b' i hw=>t.lt (r.ss.lt _ _ hw)
      stk:=fun n cs hn=>let ⟨h0,b',xs,E,fz,k1,k2⟩:=r.ss.stk n cs hn; ⟨h0,b',xs,E,fz,k1,hbox k2⟩
      heap:=fun n cs hn=>let ⟨h0,b',xs,E,fz,k1,k2⟩:=r.ss.heap n cs hn; ⟨h0,b',xs,E,fz,k1,hbox k2⟩
      maps:=fun n es c hn=>let ⟨b',xs,k1,k2⟩:=r.ss.maps n es c hn; ⟨b',xs,k1,{ obj:=hobj k2.obj (fun _ h=>by cases h),size:=k2.size,val:=fun i e hi=>let ⟨x,k3,k4⟩:=k2.val i e hi; ⟨x,k3,k4.later L⟩,wr:=k2.wr }⟩
      loops:=fun n l hn=>let ⟨b',q,k1,k2⟩:=r.ss.loops n l hn; ⟨b',q,k1,{ k2 with obj:=hobj k2.obj (fun _ h=>by cases h),fr:=k2.fr.later L }⟩
      iters:=fun n l hn=>let ⟨b',q,k1,k2⟩:=r.ss.iters n l hn; ⟨b',q,k1,{ k2 with obj:=hobj k2.obj (fun _ h=>by cases h) }⟩
      dead:=fun n hn=>let ⟨b',k1,k2⟩:=r.ss.dead n hn; ⟨b',k1,t.lt k2⟩ }
    own:=r.own
    sf:=⟨r.sf.size,fun i x hi=>let ⟨v,k1,k2⟩:=r.sf.val i x hi; ⟨v,k1,hpv k2⟩⟩ }
theorem Way.other_put (W:Way g0 w0 ow0 g w ow) {b:Nat} {d d':Option (List Deferred)} (h:w.heap[b]? = some (.deferred d)) (hb:w0.heap.size≤b):Way g0 w0 ow0 g (w.putObj b (.deferred d')) ow where
  tr:={
    size:=by rw [putObj_size]; exact W.tr.size
    obj:=fun b' hb' hm=>by rw [World.putObj_heap_other (by omega)]; exact W.tr.obj b' hb' hm
    cell:=fun b' i hb' hm=>by rw [putObj_cell h (noCells_deferred _) (noCells_deferred _)]; exact W.tr.cell b' i hb' hm
    live:=fun b' i v hv=>by rw [putObj_cell h (noCells_deferred _) (noCells_deferred _)]; exact W.tr.live b' i v hv
    froz:=fun b' i hb'=>by rw [putObj_frozen h (noCells_deferred _) (noCells_deferred _)]; exact W.tr.froz b' i hb'
    wr:=W.tr.wr,sb:=W.tr.sb,hb:=W.tr.hb
    env:=⟨W.tr.env.1,W.tr.env.2.1,W.tr.env.2.2⟩ }
  may:=W.may
  keep:=W.keep
  hbn:=W.hbn
end
end Go.AM
namespace Go.AM
open Go
section
variable {P:Program} {C:CallF} {cfg:Cfg} {f:FuncId} {g g' g0 g1 g2:G} {w w' w0:World} {ow ow' ow0 ow1:Own} {σ σ':St} {fr fr':Fr} {tm:Array Value} {a:Act} {ops:Array Oper} {Q:Exit→Act→World→Prop}
def markOf (b:Nat):Deferred:={ target := .collected b,args := #[] }
def Marks (g':G) (w':World) (lo:Nat) (ds ds':List Deferred):Prop :=
  ∃bs:List Nat,ds'=bs.map markOf ++ ds∧bs.Nodup∧∀b∈bs,lo≤b∧w'.heap[b]? = some (.deferred (some []))∧∀o,¬g'.wr b o
structure Post (g:G) (w:World) (ow:Own) (a:Act) (fr':Fr) (σ':St) (a':Act) (w':World):Prop where
  out:∃g' ow',Rel g' w' ow' fr' a'.tmps σ'∧Way g w ow g' w' ow'∧Marks g' w' w.heap.size a.defers a'.defers
theorem Marks.none (g:G) (w:World) (lo:Nat) (ds:List Deferred):Marks g w lo ds ds:=⟨[],rfl,List.nodup_nil,fun _ h=>by cases h⟩
theorem Marks.along {lo:Nat} {ds ds':List Deferred} (m:Marks g w lo ds ds') (o:OW g ow) (W:Way g w ow g' w' ow'):Marks g' w' lo ds ds':=by
  obtain ⟨bs,h1,h2,h3⟩:=m
  refine ⟨bs,h1,h2,fun b hb => ?_⟩
  obtain ⟨k1,k2,k3⟩:=h3 b hb
  have hl:=(Array.getElem?_eq_some_iff.1 k2).1
  refine ⟨k1,?_,fun i hw => ?_⟩
  · rw [W.tr.obj b hl fun i hm => ?_]
    · exact k2
    · rcases hm with hm | ⟨p,hp⟩
      · exact k3 i hm.2
      · exact k3 i (o.wr _ _ _ hp)
  · rcases W.tr.wr b i hw with h | h
    · exact k3 i h
    · omega
theorem Marks.trans {lo lo':Nat} {d0 d1 d2:List Deferred} (m:Marks g w lo d0 d1) (hlo:lo≤lo') (o:OW g ow) (W:Way g w ow g' w' ow') (hs:w.heap.size≤lo') (m':Marks g' w' lo' d1 d2):Marks g' w' lo d0 d2:=by
  obtain ⟨bs,h1,h2,h3⟩:=m.along o W
  obtain ⟨bs0,h10,h20,h30⟩:=m
  obtain ⟨bs',k1,k2,k3⟩:=m'
  have e:bs.map markOf=bs0.map markOf:=List.append_cancel_right (h1.symm.trans h10)
  have e':bs=bs0:=by
    have:Function.Injective markOf:=fun x y h=>by injection h with h; injection h
    exact (List.map_inj_right fun x y h=>this h).1 e
  subst e'
  refine ⟨bs' ++ bs,by rw [k1,h1]; simp,List.nodup_append.2 ⟨k2,h2,fun x hx y hy => ?_⟩,fun b hb => ?_⟩
  · have a1:=(k3 x hx).1
    have a2:=(Array.getElem?_eq_some_iff.1 (h30 y hy).2.1).1
    omega
  · rcases List.mem_append.1 hb with hb | hb
    · obtain ⟨a1,a2,a3⟩:=k3 b hb; exact ⟨Nat.le_trans hlo a1,a2,a3⟩
    · exact h3 b hb
theorem Post.after {a1 a':Act} (hw:Way g w ow g1 w0 ow1) (hlt:∀b o,g.wr b o→b < w.heap.size) (ho:OW g1 ow1) (hd:Marks g1 w0 w.heap.size a.defers a1.defers) (h:Post g1 w0 ow1 a1 fr' σ' a' w'):Post g w ow a fr' σ' a' w':=by
  obtain ⟨g',ow',h1,h2,h3⟩:=h.out
  exact ⟨⟨g',ow',h1,hw.trans h2 hlt,hd.trans hw.tr.size ho h2 (Nat.le_refl _) h3⟩⟩
theorem Post.here {a':Act} (r:Rel g w ow fr a'.tmps σ) (hd:a'.defers=a.defers):Post g w ow a fr σ a' w:=⟨⟨g,ow,r,Way.refl _ _ _,hd▸Marks.none _ _ _ _⟩⟩
theorem V_bool {b:Bool} {v:Value} (h:V g w (.s (.bool b)) v):v = .bool b:=by cases h; rfl
theorem guardA_wanted {o:Oper} {b:Bool} (s:SF g w ow fr a.tmps) (h:guardA ops fr o=some b):Region.wanted o (yielded ops a.tmps)=b:=by
  unfold guardA at h
  unfold Region.wanted
  cases hg:o.guard with
  | none=>rw [hg] at h; dsimp only at h ⊢; exact Option.some.inj h
  | some jw =>
    obtain ⟨j,want⟩:=jw
    rw [hg] at h
    dsimp only at h ⊢
    cases hd:(ops[j]?).bind (·.dst) with
    | none=>rw [hd] at h; cases h
    | some d =>
      rw [hd] at h
      dsimp only at h
      have hy:∀v,a.tmps[d]? = some v→yielded ops a.tmps j=(match v with | .bool b=>some b | _=>none):=by
        intro v hv
        unfold yielded
        rw [hd]
        simp only [Option.bind_some,hv]
        cases v <;> rfl
      split at h
      · rename_i b' hb
        obtain ⟨v,h1,h2⟩:=s.val d _ hb
        have h3:=V_bool (PV.plain h2 rfl)
        rw [hy v h1,h3]
        exact Option.some.inj h
      · rename_i hb
        obtain ⟨v,h1,h2⟩:=s.val d _ hb
        have h3:V g w (.tup []) v:=PV.plain h2 rfl
        cases h3 with
        | tup _ _ =>
          rw [hy _ h1]
          exact Option.some.inj h
      · cases h
theorem act_defers (a:Act) (dst:Option Tmp) (v:Value):(a.put dst v).defers=a.defers:=by cases dst <;> rfl
theorem undef_tup:V g w (.tup []) undef := .tup .nil .nil
theorem step_wp {rd : Option Nat} (hC : Sound P C) {i : Nat} {K : Act → World → Prop} (h : stepA C P cfg f ops i fr σ = some (fr', σ')) (r : Rel g w ow fr a.tmps σ)
    (hK:∀a' w',Post g w ow a fr' σ' a' w'→K a' w'):wpOpIn (FW rd) 0 P ops Q i K a w:=by
  unfold stepA at h
  unfold wpOpIn
  cases hi:ops[i]? with
  | none=>rw [hi] at h; cases h
  | some o =>
    rw [hi] at h
    dsimp only at h ⊢
    cases hg:guardA ops fr o with
    | none=>rw [hg] at h; cases h
    | some b =>
      rw [hg] at h
      rw [guardA_wanted r.sf hg]
      cases b with
      | true =>
        dsimp only at h
        simp only [if_true]
        split at h
        · rename_i v fr1 σ1 he
          simp only [Option.some.injEq,Prod.mk.injEq] at h
          obtain ⟨rfl,rfl⟩:=h
          obtain ⟨g1,ow1,r1,W1⟩:=settle_way (settled o.op) r
          refine evOp_wp hC r1 he fun g' w' ow' val ho=>hK _ _ ?_
          refine ⟨⟨g',ow',?_,W1.trans ho.way r.ss.lt,by rw [act_defers]; exact Marks.none _ _ _ _⟩⟩
          rw [act_put]; exact ho.rel
        · cases h
      | false =>
        simp only [Option.some.injEq,Prod.mk.injEq] at h
        obtain ⟨rfl,rfl⟩:=h
        simp only [Bool.false_eq_true,if_false]
        obtain ⟨ow',r',k1,_,_⟩:=r.put (dst:=o.dst) (PV.of (o:=Nobody) (undef_tup (g:=g) (w:=w))) (Free.nobody _ _)
        refine ⟨fun f _=>FW_fn rd f,hK _ _ ⟨⟨g,ow',by rw [act_put]; exact r',Way.only fun p b o h=>(k1 p b o h).resolve_right id,by rw [act_defers]; exact Marks.none _ _ _ _⟩⟩⟩
theorem ops_wp {rd : Option Nat} (hC : Sound P C) : ∀ (l : List Nat) {fr : Fr} {σ : St} {g : G} {w : World} {ow : Own} {a : Act}, evOps C P cfg f ops l fr σ = some (fr', σ') → Rel g w ow fr a.tmps σ →
    (∀a' w',Post g w ow a fr' σ' a' w'→Q .normal a' w')→wpOpsIn (FW rd) 0 P ops Q l a w
  | [],fr,σ,g,w,ow,a,h,r,hQ=>by
    simp only [evOps,Option.some.injEq,Prod.mk.injEq] at h
    obtain ⟨rfl,rfl⟩:=h
    exact hQ a w (Post.here r rfl)
  | i :: l,fr,σ,g,w,ow,a,h,r,hQ=>by
    simp only [evOps] at h
    split at h
    · rename_i fr1 σ1 hs
      rw [wpOpsIn_cons]
      refine step_wp hC hs r fun a1 w1 hp => ?_
      obtain ⟨g1,ow1,r1,W1,hd⟩:=hp.out
      exact ops_wp hC l h r1 fun a' w' hp'=>hQ a' w' (hp'.after W1 r.ss.lt r1.own hd)
    · cases h
theorem any_wp {rd : Option Nat} (hC : Sound P C) {J : Array Bool → St → Prop} : ∀ (n : Nat) {listed : Array Bool} {fr : Fr} {σ : St} {g : G} {w : World} {ow : Own} {a : Act}, AnyJ C P cfg f ops J (fr', σ') n listed fr σ → Rel g w ow fr a.tmps σ →
    (∀a' w',Post g w ow a fr' σ' a' w'→Q .normal a' w')→wpAnyIn (FW rd) 0 P .any ops Q n listed a w
  | 0,listed,fr,σ,g,w,ow,a,h,r,hQ=>by
    obtain ⟨h1,h2,_⟩:=h
    simp only [Prod.mk.injEq] at h2
    obtain ⟨rfl,rfl⟩:=h2
    exact ⟨h1,hQ a w (Post.here r rfl)⟩
  | n + 1,listed,fr,σ,g,w,ow,a,h,r,hQ=>by
    obtain ⟨_,h1,h2⟩:=h
    refine ⟨fun he => ?_,fun i hi => ?_⟩
    · have h3:=h1 he
      simp only [Prod.mk.injEq] at h3
      obtain ⟨rfl,rfl⟩:=h3
      exact hQ a w (Post.here r rfl)
    · obtain ⟨fr1,σ1,h3,h4⟩:=h2 i hi
      refine step_wp hC h3 r fun a1 w1 hp => ?_
      obtain ⟨g1,ow1,r1,W1,hd⟩:=hp.out
      exact any_wp hC n h4 r1 fun a' w' hp'=>hQ a' w' (hp'.after W1 r.ss.lt r1.own hd)
theorem Rel.heap (r:Rel g w ow fr tm σ) (h:w'.heap=w.heap) (he:SameEnv w w':=by exact .r):Rel g w' ow fr tm σ:=by
  have t:Tr Nought g w g w':=Tr.heap h he
  exact ⟨r.ss.still t (fun b o hw=>by rw [h]; exact r.ss.lt b o hw) rfl rfl (fun _ _ _ h=>h) (fun _ _ _ _ h=>h) (fun _ _ _ _ h=>h),r.own,
    r.sf.later t (fun _ _ h=>h.elim) (fun _ _ _ _ h=>h) (fun _ _ _ h=>h)⟩
theorem Way.heap (h:w'.heap=w.heap) (he:SameEnv w w':=by exact .r):Way g w ow g w' ow:=⟨Tr.heap h he,fun _ _ h => .inl h,fun _ _ h => .inr h,fun _ h => .inl h⟩
def Ex.toExit:Ex→Exit
  | .normal => .normal
  | .exit id => .exit id
  | .ret => .ret
theorem exists_least {p:Nat→Prop} (h:∃n,p n):∃n,p n∧∀m,p m→n≤m:=by
  obtain ⟨n,hn⟩:=h
  induction n using Nat.strongRecOn with
  | _ n ih =>
    by_cases hm:∃m,m < n∧p m
    · obtain ⟨m,h1,h2⟩:=hm; exact ih m h1 h2
    · exact ⟨n,hn,fun m h2=>Nat.le_of_not_lt fun h1=>hm ⟨m,h1,h2⟩⟩
open Classical in
noncomputable def least (p:Nat→Prop):Nat:=if h:∃n,p n then Classical.choose (exists_least h) else 0
theorem least_spec {p:Nat→Prop} (h:∃n,p n):p (least p)∧∀m,p m→least p≤m:=by
  unfold least; rw [dif_pos h]; exact Classical.choose_spec (exists_least h)
theorem wp_loop_n {rd:Option Nat} {c:Code} (I:Nat→Act→World→Prop) {n:Nat} (h0:I n a w) (round:∀n a w,I n a w→c.wpIn (FW rd) 0 P (Exit.then (fun a' w'=>∃m,m < n∧I m a' w') Q) a w):(Code.loop c).wpIn (FW rd) 0 P Q a w:=by
  refine wpIn_loop (fun a w=>∃n,I n a w) (fun a w=>least fun n=>I n a w) ⟨n,h0⟩ fun a w hI => ?_
  obtain ⟨h1,h2⟩:=least_spec hI
  refine wpIn_mono (round _ a w h1) fun e a' w' hq => ?_
  cases e with
  | normal =>
    obtain ⟨m,h3,h4⟩:=hq
    exact ⟨⟨m,h4⟩,Nat.lt_of_le_of_lt ((least_spec ⟨m,h4⟩).2 m h4) h3⟩
  | _=>exact hq
def BodySound (P:Program) (C:CallF) (cfg:Cfg) (n:Nat) (rd:Option Nat) (f:FuncId) (c:Code):Prop :=
  ∀(k:Nat) (fr:Fr) (σ:St) (e:Ex) (fr':Fr) (σ':St),evCode C P cfg n rd.isSome f k c fr σ=some (e,fr',σ')→∀(g:G) (w:World) (ow:Own) (a:Act) (Q:Exit→Act→World→Prop),Rel g w ow fr a.tmps σ →
    (∀a' w',Post g w ow a fr' σ' a' w'→Q e.toExit a' w')→c.wpIn (FW rd) 0 P Q a w
theorem loop_wp {rd : Option Nat} {c : Code} {n k : Nat} (hb : BodySound P C cfg n rd f c) {mask : List Bool} {n0 : Nat} {e : Ex} {a0 : Act} (hn0 : g0.sb.length = n0) (hlt0 : ∀ b o, g0.wr b o → b < w0.heap.size)
    (hQ:∀a' w',Post g0 w0 ow0 a0 fr' σ' a' w'→Q e.toExit a' w') {m:Nat} (h:evLoop (evCode C P cfg n rd.isSome f k c) mask n0 m fr σ=some (e,fr',σ')) (r:Rel g w ow fr a.tmps σ) (W:Way g0 w0 ow0 g w ow) (hd:Marks g w w0.heap.size a0.defers a.defers):(Code.loop c).wpIn (FW rd) 0 P Q a w:=by
  refine wp_loop_n (fun m a w=>∃fr σ g ow,evLoop (evCode C P cfg n rd.isSome f k c) mask n0 m fr σ=some (e,fr',σ')∧Rel g w ow fr a.tmps σ∧Way g0 w0 ow0 g w ow∧Marks g w w0.heap.size a0.defers a.defers) ⟨fr,σ,g,ow,h,r,W,hd⟩ ?_
  rintro m a w ⟨fr,σ,g,ow,h,r,W,hd⟩
  cases m with
  | zero=>simp only [evLoop] at h; cases h
  | succ m =>
    simp only [evLoop] at h
    split at h
    case isFalse=>cases h
    rename_i hu
    have rk:=(r.keep mask).cut n0 hu
    have Wk:=W.cut hn0
    cases hbody:evCode C P cfg n rd.isSome f k c (AM.keep mask fr) (σ.cut n0) with
    | none=>simp only [St.cut] at hbody; rw [hbody] at h; cases h
    | some res =>
      obtain ⟨e1,fr1,σ1⟩:=res
      have hb':=hbody
      simp only [St.cut] at hb'
      rw [hb'] at h
      refine hb k _ _ e1 fr1 σ1 hbody (g.cut n0) w ow a _ rk fun a' w' hp => ?_
      have hp':Post g0 w0 ow0 a0 fr1 σ1 a' w':=hp.after Wk hlt0 rk.own hd
      cases e1 with
      | normal =>
        dsimp only at h
        obtain ⟨g',ow',h1,h2,h3⟩:=hp'.out
        exact ⟨m,Nat.lt_succ_self m,fr1,σ1,g',ow',h,h1,h2,h3⟩
      | exit id =>
        simp only [Option.some.injEq,Prod.mk.injEq] at h
        obtain ⟨rfl,rfl,rfl⟩:=h
        exact hQ a' w' hp'
      | ret =>
        simp only [Option.some.injEq,Prod.mk.injEq] at h
        obtain ⟨rfl,rfl,rfl⟩:=h
        exact hQ a' w' hp'
theorem mask_bit:∀(l:List Nat) (t:Nat),(maskOf l).testBit t=true↔t∈l
  | [],t=>by simp [maskOf]
  | x :: l,t=>by
    simp only [maskOf,Nat.testBit_or,Bool.or_eq_true,mask_bit l t,Nat.testBit_two_pow,decide_eq_true_eq,List.mem_cons]
    constructor
    · rintro (h | h)
      · exact .inr h
      · exact .inl h.symm
    · rintro (h | h)
      · exact .inr h.symm
      · exact .inl h
theorem and_sub {a b:Nat}:(a &&& b == a)=true↔∀t,a.testBit t=true→b.testBit t=true:=by
  rw [beq_iff_eq]
  constructor
  · intro h t ht
    have:=congrArg (·.testBit t) h
    simp only [Nat.testBit_and,ht,Bool.true_and] at this
    exact this
  · intro h
    apply Nat.eq_of_testBit_eq
    intro t
    rw [Nat.testBit_and]
    cases ha:a.testBit t with
    | false=>rfl
    | true=>rw [h t ha]; rfl
theorem allFrom_spec {p:Info→Nat→Bool}:∀{l:List Info} {k:Nat},allFrom p l k=true→∀j I,l[j]? = some I→p I (k + j)=true
  | [],k,_,j,I,hj=>by simp at hj
  | J :: l,k,h,j,I,hj=>by
    simp only [allFrom,Bool.and_eq_true] at h
    cases j with
    | zero=>simp at hj; subst hj; exact h.1
    | succ j =>
      have:=allFrom_spec h.2 j I (by simpa using hj)
      rw [show k + (j + 1)=k + 1 + j by omega]; exact this
theorem nth_get:∀{l:List Info} {j:Nat},nth l j=l[j]?
  | [],j=>by simp [nth]
  | I :: l,0=>by simp [nth]
  | I :: l,j + 1=>by simp [nth,nth_get]
structure SameL (n:Nat) (mask:Nat) (l:Array Bool):Prop where
  size:l.size=n
  bit:∀x,mask.testBit x=l.getD x false
theorem SameL.set {n mask i:Nat} {l:Array Bool} (h:SameL n mask l) (hi:i < n):SameL n (mask ||| 2 ^ i) (l.setIfInBounds i true):=by
  refine ⟨by simp [h.size],fun x => ?_⟩
  rw [Nat.testBit_or,Nat.testBit_two_pow,h.bit]
  by_cases e:i=x
  · subst e; simp [h.size,hi]
  · rw [getD_set_ne false e]; simp [e]
theorem info_ready {n mask:Nat} {l:Array Bool} (h:SameL n mask l) (hn:n=ops.size) {i:Nat} {o:Oper} (ho:ops[i]? = some o):(infoOf cfg f ops o).ready i mask=true↔i∈Region.ready .any ops l:=by
  have hi:i < l.size:=by rw [h.size,hn]; exact (Array.getElem?_eq_some_iff.1 ho).1
  have hd:l.getD i true=l.getD i false:=by simp [hi]
  rw [mem_ready,hd]
  simp only [Info.ready,infoOf,Bool.and_eq_true,Bool.not_eq_true',and_sub,h.bit,mask_bit]
  refine and_congr_right fun _ => ?_
  constructor
  · intro hall
    refine ⟨o,ho,fun e he hb => ?_⟩
    exact hall e.on (List.mem_map.2 ⟨e,List.mem_filter.2 ⟨Array.mem_toList_iff.2 he,hb⟩,rfl⟩)
  · rintro ⟨o',ho',hall⟩ t ht
    rw [ho] at ho'
    injection ho' with ho'; subst ho'
    obtain ⟨e,he,rfl⟩:=List.mem_map.1 ht
    obtain ⟨h1,h2⟩:=List.mem_filter.1 he
    exact hall e (Array.mem_toList_iff.1 h1) h2
theorem info_apart {x y:Oper} (h:(infoOf cfg f ops x).apart (infoOf cfg f ops y)=true):x.apart ops y=true:=by
  have hm:∀(o:Oper) (d:Nat),((infoOf cfg f ops o).looks.testBit d)=(o.looksAt ops).contains d:=by
    intro o d
    have:=mask_bit (o.looksAt ops) d
    show (maskOf (o.looksAt ops)).testBit d=_
    cases hc:(o.looksAt ops).contains d with
    | true=>exact this.2 (by simpa using hc)
    | false =>
      cases hb:(maskOf (o.looksAt ops)).testBit d with
      | false=>rfl
      | true=>exact absurd (this.1 hb) (by simpa using hc)
  unfold Info.apart at h
  simp only [hm] at h
  exact h
theorem plan_fast:∀(l:List Nat) (mask:Nat) (listed:Array Bool),SameL ops.size mask listed→planFast (ops.toList.map (infoOf cfg f ops)) l mask=true→PlanP cfg f ops l listed
  | [],mask,listed,hs,h=>by
    simp only [planFast] at h
    apply List.eq_nil_iff_forall_not_mem.2
    intro j hj
    obtain ⟨_,o,ho,_⟩:=mem_ready.1 hj
    have:=allFrom_spec h j (infoOf cfg f ops o) (by rw [List.getElem?_map,Array.getElem?_toList,ho]; rfl)
    rw [Nat.zero_add,(info_ready hs rfl ho).2 hj] at this
    cases this
  | i :: rest,mask,listed,hs,h=>by
    simp only [planFast,nth_get,List.getElem?_map,Array.getElem?_toList] at h
    cases ho:ops[i]? with
    | none=>rw [ho] at h; cases h
    | some oi =>
      rw [ho] at h
      simp only [Option.map_some,Bool.and_eq_true] at h
      obtain ⟨⟨h1,h2⟩,h3⟩:=h
      have hi:i < ops.size:=(Array.getElem?_eq_some_iff.1 ho).1
      have hrd:isReader cfg f ops i=(infoOf cfg f ops oi).rd:=by simp [isReader,ho,infoOf]
      refine ⟨(info_ready hs rfl ho).1 h1,fun o' ho' hr j oj hj hne hun hno => ?_,fun hr j hj => ?_,plan_fast rest _ _ (hs.set hi) h3⟩
      · rw [ho] at ho'; injection ho' with ho'; subst ho'
        rw [←hrd,hr] at h2
        simp only [if_true] at h2
        have:=allFrom_spec h2 j (infoOf cfg f ops oj) (by rw [List.getElem?_map,Array.getElem?_toList,hj]; rfl)
        rw [Nat.zero_add] at this
        simp only [Bool.or_eq_true,beq_iff_eq] at this
        rcases this with ((h4 | h4) | h4) | h4
        · exact (hne h4).elim
        · have hjl:j < listed.size:=by rw [hs.size]; exact (Array.getElem?_eq_some_iff.1 hj).1
          rw [hs.bit] at h4
          simp [hjl] at h4 hun
          rw [h4] at hun; cases hun
        · rw [show (infoOf cfg f ops oj).edges=maskOf ((oj.after.toList.filter (Region.binds .any)).map (·.on)) from rfl,mask_bit] at h4
          obtain ⟨e,he,hei⟩:=List.mem_map.1 h4
          obtain ⟨h5,h6⟩:=List.mem_filter.1 he
          exact (hno e (Array.mem_toList_iff.1 h5) h6 hei).elim
        · exact info_apart h4
      · rw [←hrd,hr] at h2
        simp only [Bool.false_eq_true,if_false] at h2
        obtain ⟨_,o,hjo,_⟩:=mem_ready.1 hj
        have:=allFrom_spec h2 j (infoOf cfg f ops o) (by rw [List.getElem?_map,Array.getElem?_toList,hjo]; rfl)
        rw [Nat.zero_add,(info_ready hs rfl hjo).2 hj] at this
        simpa using this
theorem closed_none (ops:Array Oper) (n:Nat):Closed ops (Array.replicate n false):=by
  intro j k hj _
  exfalso
  by_cases hl:j < n
  · simp [Array.getElem?_eq_getElem,hl] at hj
  · simp [Array.getElem?_eq_none,hl] at hj
theorem same_none (n:Nat):SameL n 0 (Array.replicate n false):=by
  refine ⟨by simp,fun x => ?_⟩
  by_cases hl:x < n
  · simp [Array.getElem?_eq_getElem,hl]
  · simp [Array.getElem?_eq_none,hl]
theorem lasting_V {v:AV} {x:Value} {o:Nat→Nat→Prop} (h:PV g w o v x):V g w (lasting v) x:=by
  unfold lasting
  split
  · exact h.look
  · exact VL.undef _ .nil
theorem lasting_low (v:AV):AV.under 0 (lasting v)=true:=by
  unfold lasting
  split
  · rename_i h; exact h
  · rfl
theorem lasting_VL (s:SF g w ow fr tm):VL g w (fr.map lasting) tm.toList:=by
  refine VL.of_get (by rw [List.length_map,Array.length_toList]; exact s.size) fun i v hi => ?_
  rw [List.getElem?_map] at hi
  obtain ⟨x,h1,rfl⟩:=map_some hi
  obtain ⟨y,h2,h3⟩:=s.val i x h1
  exact ⟨y,by rw [Array.getElem?_toList]; exact h2,lasting_V h3⟩
theorem rangeFunc_wp (hC : Sound P C) (hn : ∀ (f : FuncId) (fn : Func), P.funcs[f]? = some fn → fn.name ≠ "runtime.NumGoroutine") {gop : Operand} {ps : Array Tmp} {azz bd : Code} {e : Ex}
    (h:(match AM.seen fr gop with
    | .fn (.func h) first captured =>
      if !hasBody P h then none else
      match C (.fn h) (first ++ [.yield σ.heap.length] ++ captured) { σ with heap:=σ.heap ++ [.loop { fid:=f,fr:=fr.map lasting,params:=ps.toList,assign:=azz,body:=bd,ready:=true,pending:=none }] } with
      | some (_,σ')=>match σ'.heap[σ.heap.length]? with
        | some (.loop l)=>if l.ready || l.pending.isSome then some (l.pending.getD .normal,fr,{ σ' with heap:=σ'.heap.set σ.heap.length .dead }) else none
        | _=>none
      | none=>none
    | _=>none)=some (e,fr',σ')) (r:Rel g w ow fr a.tmps σ) (hQ:∀a' w',Post g w ow a fr' σ' a' w'→Q e.toExit a' w'):(Code.rangeFunc gop ps azz bd).wpIn (FW none) 0 P Q a w:=by
  split at h
  case h_2=>cases h
  rename_i hf first captured hg
  split at h
  · cases h
  rename_i hbody
  split at h
  case h_2=>cases h
  rename_i v σ2 hcall
  split at h
  case h_2=>cases h
  rename_i l hl
  split at h
  case isFalse=>cases h
  rename_i hst
  simp only [Option.some.injEq,Prod.mk.injEq] at h
  obtain ⟨rfl,rfl,rfl⟩:=h
  refine wpIn_rangeFunc fun fn _ => ?_
  obtain ⟨r1,W1⟩:=r.other_new (.deferred (some []))
  let q:Loop:={ state := .ready,pending:=none,fn,tmps:=a.tmps,params:=ps,assign:=azz,body:=bd,defers:=w.heap.size }
  obtain ⟨g2,r2,W2,hb2,hsb2,hwr2⟩:=r1.newLoop (l:={ fid:=f,fr:=fr.map lasting,params:=ps.toList,assign:=azz,body:=bd,ready:=true,pending:=none }) (q:=q) rfl rfl rfl rfl rfl (lasting_VL r1.sf) (under_mem.2 fun x hx=>by obtain ⟨y,_,rfl⟩:=List.mem_map.1 hx; exact lasting_low y)
  have hsz:(w.alloc (.deferred (some []))).heap.size=w.heap.size + 1:=by show (w.heap.push _).size=_; simp
  rw [hsz] at hb2
  have hV:=r2.sf.seen gop
  rw [hg] at hV
  generalize hgv:a.eval gop=gv at hV
  cases hV with
  | @fn _ _ _ xs ys _ _ v1 v2 _ =>
    have rc:=callee_rel (O:=fun _=>Nobody) (vs:=[.yield σ.heap.length]) (vv:=[.func (.yield (w.heap.size + 1)) #[] #[]]) r2 v1 v2 rfl (fun i x hi=>by
      cases i with
      | zero=>simp at hi; subst hi; exact ⟨_,rfl,PV.of (.yield hb2 .nil)⟩
      | succ i=>simp at hi) (fun _=>Free.nobody _ _) (fun _ _ _ _ h=>h.elim)
    have hrun:=hC (.fn hf) _ _ _ _ hcall _ _ _ _ rc _ rfl
    have hent:∀(args:Array Value) (w:World),(callFunc hf args).run P w = .ok (.enter hf args) w:=by
      intro args w
      have hb':hasBody P hf=true:=by simpa using hbody
      unfold hasBody at hb'
      split at hb'
      · rename_i fn' hfn
        have h1:=hn _ _ hfn
        cases hfb:fn'.body with
        | none=>rw [hfb] at hb'; cases hb'
        | some c=>simp [callFunc,Sem.run,hfn,hfb,h1]
      · cases hb'
    have eargs:(xs.toList ++ [Value.func (.yield (w.heap.size + 1)) #[] #[]] ++ ys.toList).toArray=xs ++ #[.func (.yield (w.heap.size + 1)) #[] #[]] ++ ys:=by
      apply Array.ext'; simp
    rw [eargs] at hrun
    refine ⟨w.heap.size + 1,[markOf w.heap.size],(w.alloc (.deferred (some []))).alloc (.loop q),{ target := .fn (.func hf) ys,args:=xs ++ #[.func (.yield (w.heap.size + 1)) #[] #[]] },(w.alloc (.deferred (some []))).alloc (.loop q),hf,xs ++ #[.func (.yield (w.heap.size + 1)) #[] #[]] ++ ys,(w.alloc (.deferred (some []))).alloc (.loop q),run_enterLoop_outer fn a.tmps ps azz bd,?_,fun f' _=>FW_fn none f',?_,FW_depth none 0,?_⟩
    · simp only [resolve,hgv,map_one]; rfl
    · exact hent _ _
    · rcases hrun with ⟨f',args',e1,e2⟩ | ⟨v',w',e1,_⟩ | ⟨l',fn',tm',as',bd',e1,_⟩
      case inr.inl=>rw [hent] at e1; cases e1
      case inr.inr=>rw [hent] at e1; cases e1
      rw [hent] at e1
      simp only [Result.ok.injEq,Next.enter.injEq,and_true] at e1
      obtain ⟨rfl,rfl⟩:=e1
      refine FW_calls (Calls.mono e2 fun e w3 he => ?_)
      cases e with
      | returned rv =>
        obtain ⟨g3,ow3,hret⟩:=he
        obtain ⟨ow4,ho⟩:=ret_out (dst:=none) r2 (fun _=>Free.nobody _ _) (fun _ _ _ h=>h) (fun _ _ _ h=>h.elim) hret
        have r4:Rel g3 w3 ow4 fr a.tmps σ2:=ho.rel
        obtain ⟨b',q3,hb3,hq3⟩:=r4.ss.loops _ _ hl
        have hb3':b'=w.heap.size + 1:=Option.some.inj (hb3.symm.trans (ho.tr.hb _ _ hb2))
        subst hb3'
        have hnb:q3.state≠.busy:=by
          rw [hq3.state]
          unfold loopState
          split
          · simp
          · rename_i hr
            split
            · rename_i hpn; simp [hr,hpn] at hst
            · simp
        obtain ⟨r5,W5⟩:=r4.killLoop (q':={ q3 with state := .exhausted }) hl hb3 hq3
        have W:Way g w ow g3 (w3.putObj (w.heap.size + 1) (.loop { q3 with state := .exhausted })) ow4 :=
          ((W1.trans W2 r.ss.lt).trans ho.way r.ss.lt).trans W5 r.ss.lt
        have hmark:Marks g3 (w3.putObj (w.heap.size + 1) (.loop { q3 with state := .exhausted })) w.heap.size a.defers ([markOf w.heap.size] ++ a.defers):=by
          have m0:Marks g (w.alloc (.deferred (some []))) w.heap.size a.defers ([markOf w.heap.size] ++ a.defers):=by
            refine ⟨[w.heap.size],rfl,by simp,fun b hb => ?_⟩
            rw [List.mem_singleton.1 hb]
            exact ⟨Nat.le_refl _,World.alloc_heap_new w _,fun o hw=>absurd (r.ss.lt _ _ hw) (Nat.lt_irrefl _)⟩
          exact ((m0.along r1.own W2).along r2.own ho.way).along r4.own W5
        have post:Post g w ow a fr { σ2 with heap:=σ2.heap.set σ.heap.length .dead } { a with defers:=[markOf w.heap.size] ++ a.defers } (w3.putObj (w.heap.size + 1) (.loop { q3 with state := .exhausted })):=⟨⟨g3,ow4,r5,W,hmark⟩⟩
        have key : ∀ (j : Option Code) (a' : Act) (W : World), j = l.pending.map Ex.toCode → Post g w ow a fr { σ2 with heap := σ2.heap.set σ.heap.length .dead } a' W →
            (match j with
             | none=>Q .normal a' W
             | some c=>c.wpIn (FW none) 0 P Q a' W):=by
          intro j a' W hj hp
          subst hj
          have hq':=hQ _ _ hp
          cases hpd:l.pending with
          | none=>rw [hpd] at hq'; exact hq'
          | some x =>
            rw [hpd] at hq'
            cases x with
            | normal=>exact wpIn_skip hq'
            | exit id=>exact wpIn_exit hq'
            | ret=>exact wpIn_ret hq'
        exact ⟨q3.pending,_,run_endLoop hq3.obj hnb,key _ _ _ hq3.pending post⟩
      | _=>exact he.elim
theorem code_wp {rd:Option Nat} (hC:Sound P C) (hn:∀(f:FuncId) (fn:Func),P.funcs[f]? = some fn→fn.name≠"runtime.NumGoroutine") (hm:P.follows .mixedOrders=true) {n:Nat}:∀(c:Code),plansIn cfg f c=true→BodySound P C cfg n rd f c
  | .skip,_=>fun k fr σ e fr' σ' h g w ow a Q r hQ=>by
    simp only [evCode,Option.some.injEq,Prod.mk.injEq] at h
    obtain ⟨rfl,rfl,rfl⟩:=h
    exact wpIn_skip (hQ a w (Post.here r rfl))
  | .region id ops false,_=>fun k fr σ e fr' σ' h g w ow a Q r hQ=>by
    simp only [evCode] at h
    obtain ⟨⟨fr1,σ1⟩,h1,h2⟩:=map_some h
    simp only [Prod.mk.injEq] at h2
    obtain ⟨rfl,rfl,rfl⟩:=h2
    exact wpIn_region (ops_wp hC _ h1 r hQ)
  | .region id ops true,hp=>fun k fr σ e fr' σ' h g w ow a Q r hQ=>by
    simp only [evCode] at h
    split at h
    · cases h
    rename_i hne
    obtain ⟨⟨fr1,σ1⟩,h1,h2⟩:=map_some h
    simp only [Prod.mk.injEq] at h2
    obtain ⟨rfl,rfl,rfl⟩:=h2
    simp only [plansIn,Bool.or_eq_true,Bool.and_eq_true,decide_eq_true_eq] at hp
    have hp':=hp.resolve_left hne
    have hany:=evPlan_any _ ops.size _ _ _ _ hp'.1 (plan_fast _ 0 _ (same_none _) hp'.2) (closed_none _ _) (fun c hc=>by cases hc) h1
    refine wpIn_region_any hm (any_wp hC _ hany (r.heap rfl) fun a' w' hpost=>hQ a' w' ?_)
    exact Post.after (g1:=g) (w0:={ w with drawn:=w.drawn + 1 }) (ow1:=ow) (a1:=a) (Way.heap rfl) r.ss.lt r.own (Marks.none _ _ _ _) hpost
  | .seq x y,hp=>fun k fr σ e fr' σ' h g w ow a Q r hQ=>by
    simp only [plansIn,Bool.and_eq_true] at hp
    simp only [evCode] at h
    cases hx:evCode C P cfg n rd.isSome f k x fr σ with
    | none=>rw [hx] at h; cases h
    | some res =>
      obtain ⟨e1,fr1,σ1⟩:=res
      rw [hx] at h
      refine wpIn_seq (code_wp hC hn hm x hp.1 k fr σ e1 fr1 σ1 hx g w ow a _ r fun a1 w1 hpost => ?_)
      cases e1 with
      | normal =>
        dsimp only at h
        obtain ⟨g1,ow1,r1,W1,hd⟩:=hpost.out
        exact code_wp hC hn hm y hp.2 k fr1 σ1 e fr' σ' h g1 w1 ow1 a1 Q r1 fun a' w' hp'=>hQ a' w' (hp'.after W1 r.ss.lt r1.own hd)
      | exit id =>
        simp only [Option.some.injEq,Prod.mk.injEq] at h
        obtain ⟨rfl,rfl,rfl⟩:=h
        exact hQ a1 w1 hpost
      | ret =>
        simp only [Option.some.injEq,Prod.mk.injEq] at h
        obtain ⟨rfl,rfl,rfl⟩:=h
        exact hQ a1 w1 hpost
  | .cond c x y,hp=>fun k fr σ e fr' σ' h g w ow a Q r hQ=>by
    simp only [plansIn,Bool.and_eq_true] at hp
    simp only [evCode] at h
    have hc:=r.sf.opnd c
    split at h
    · rename_i hb
      rw [hb] at hc
      exact wpIn_cond_true (V_bool (PV.plain hc rfl)) (code_wp hC hn hm x hp.1 k fr σ e fr' σ' h g w ow a Q r hQ)
    · rename_i hb
      rw [hb] at hc
      exact wpIn_cond_false (V_bool (PV.plain hc rfl)) (code_wp hC hn hm y hp.2 k fr σ e fr' σ' h g w ow a Q r hQ)
    · cases h
  | .block id x,hp=>fun k fr σ e fr' σ' h g w ow a Q r hQ=>by
    simp only [plansIn] at hp
    simp only [evCode] at h
    cases hx:evCode C P cfg n rd.isSome f id x fr σ with
    | none=>rw [hx] at h; cases h
    | some res =>
      obtain ⟨e1,fr1,σ1⟩:=res
      rw [hx] at h
      refine wpIn_block (code_wp hC hn hm x hp id fr σ e1 fr1 σ1 hx g w ow a _ r fun a1 w1 hpost => ?_)
      cases e1 with
      | normal =>
        simp only [Option.some.injEq,Prod.mk.injEq] at h
        obtain ⟨rfl,rfl,rfl⟩:=h
        exact hQ a1 w1 hpost
      | exit id' =>
        dsimp only at h
        show if id'=id then Q .normal a1 w1 else Q (.exit id') a1 w1
        split at h
        · rename_i he
          simp only [Option.some.injEq,Prod.mk.injEq] at h
          obtain ⟨rfl,rfl,rfl⟩:=h
          rw [if_pos he]; exact hQ a1 w1 hpost
        · rename_i he
          simp only [Option.some.injEq,Prod.mk.injEq] at h
          obtain ⟨rfl,rfl,rfl⟩:=h
          rw [if_neg he]; exact hQ a1 w1 hpost
      | ret =>
        simp only [Option.some.injEq,Prod.mk.injEq] at h
        obtain ⟨rfl,rfl,rfl⟩:=h
        exact hQ a1 w1 hpost
  | .loop x,hp=>fun k fr σ e fr' σ' h g w ow a Q r hQ=>by
    simp only [plansIn] at hp
    simp only [evCode] at h
    exact loop_wp (code_wp hC hn hm x hp) r.ss.slen r.ss.lt hQ h r (Way.refl _ _ _) (Marks.none _ _ _ _)
  | .exit id,_=>fun k fr σ e fr' σ' h g w ow a Q r hQ=>by
    simp only [evCode,Option.some.injEq,Prod.mk.injEq] at h
    obtain ⟨rfl,rfl,rfl⟩:=h
    exact wpIn_exit (hQ a w (Post.here r rfl))
  | .ret,_=>fun k fr σ e fr' σ' h g w ow a Q r hQ=>by
    simp only [evCode,Option.some.injEq,Prod.mk.injEq] at h
    obtain ⟨rfl,rfl,rfl⟩:=h
    exact wpIn_ret (hQ a w (Post.here r rfl))
  | .label _,_=>fun k fr σ e fr' σ' h=>by simp only [evCode] at h; cases h
  | .goto _,_=>fun k fr σ e fr' σ' h=>by simp only [evCode] at h; cases h
  | .rangeFunc gop ps azz bd,hp=>fun k fr σ e fr' σ' h g w ow a Q r hQ=>by
    simp only [evCode] at h
    split at h
    · cases h
    rename_i hrd
    have hrd':rd=none:=by cases rd <;> simp_all
    subst hrd'
    exact rangeFunc_wp hC hn h r hQ
  | .scope ..,_=>fun k fr σ e fr' σ' h=>by simp only [evCode] at h; cases h
  | .refuse _,_=>fun k fr σ e fr' σ' h=>by simp only [evCode] at h; cases h
theorem plansOK_body (hp:plansOK P cfg=true) {fn:Func} {c:Code} (hf:P.funcs[f]? = some fn) (hb:fn.body=some c):plansIn cfg f c=true:=by
  have hl:f < P.funcs.size:=(Array.getElem?_eq_some_iff.1 hf).1
  have:=List.all_eq_true.1 hp f (List.mem_range.2 hl)
  rw [hf] at this
  dsimp only at this
  rw [hb] at this
  exact this
theorem leaves_marks {fn : Func} {R : Ending → World → Prop} : ∀ (bs : List Nat) {w : World}, bs.Nodup → (∀ b ∈ bs, w0.heap.size ≤ b ∧ w.heap[b]? = some (.deferred (some []))) → Rel g w ow fr tm σ → Way g0 w0 ow0 g w ow →
    (∀w',Rel g w' ow fr tm σ→Way g0 w0 ow0 g w' ow→∃v,(results fn tm).run P w' = .ok v w'∧R (.returned v) w')→LeavesInM (FW none) 0 P fn tm R (bs.map markOf) .returning w
  | [],w,_,_,r,W,hR=>hR w r W
  | b :: bs,w,hn,hb,r,W,hR=>by
    obtain ⟨k1,k2⟩:=hb b (by simp)
    rw [List.nodup_cons] at hn
    refine ⟨by simp,.inl ⟨b,w.putObj b (.deferred none),rfl,run_takeDeferred k2,?_⟩⟩
    refine leaves_marks bs hn.2 (fun b' hb' => ?_) (r.other_put k2) (W.other_put k2 k1) hR
    obtain ⟨k3,k4⟩:=hb b' (by simp [hb'])
    refine ⟨k3,?_⟩
    have e:b'≠b:=fun e=>hn.1 (e▸hb')
    rw [World.putObj_heap_other e]; exact k4
theorem body_runs (hC : Sound P C) (hm : P.follows .mixedOrders = true) (hp : plansOK P cfg = true) (hn : ∀ (f : FuncId) (fn : Func), P.funcs[f]? = some fn → fn.name ≠ "runtime.NumGoroutine") {n : Nat} {args : List AV} {v : AV} (h : evBody C P cfg n f args σ = some (v, σ'))
    {xs:Array Value} (r:Rel g w ow args xs σ):Runs P (callFunc f xs) w fun rv w'=>∃g' ow',Ret g w ow v σ' rv g' w' ow':=by
  unfold evBody at h
  split at h
  case h_2=>cases h
  rename_i fn hf
  split at h
  case h_2=>cases h
  rename_i c hb
  have hent:(callFunc f xs).run P w = .ok (.enter f xs) w:=by
    have:=hn f fn hf
    simp [callFunc,Sem.run,hf,hb,this]
  refine .inl ⟨f,xs,hent,(callsIn_wide (n:=0)).1 (callsIn_of_wp_marks hf hb trivial ?_)⟩
  have hsz:=r.sf.size
  have r0:Rel g w ow (args ++ List.replicate (fn.ntmps - args.length) .undef) (xs ++ Array.replicate (fn.ntmps - xs.size) undef) σ:=by
    refine ⟨r.ss,r.own,by simp [hsz],fun i x hi => ?_⟩
    by_cases hl:i < args.length
    · rw [List.getElem?_append_left hl] at hi
      obtain ⟨u,h1,h2⟩:=r.sf.val i x hi
      exact ⟨u,by rw [Array.getElem?_append_left (by rw [hsz]; exact hl)]; exact h1,h2⟩
    · rw [List.getElem?_append_right (by omega)] at hi
      have hi':=List.getElem?_eq_some_iff.1 hi
      obtain ⟨h1,h2⟩:=hi'
      rw [List.getElem_replicate] at h2; subst h2
      refine ⟨undef,?_,PV.undef _⟩
      rw [List.length_replicate] at h1
      rw [Array.getElem?_append_right (by omega),Array.getElem?_eq_getElem (by rw [Array.size_replicate]; omega),Array.getElem_replicate]
  have ends : ∀ {fr1 : Fr} {σ1 : St} {a' : Act} {w' : World}, finish P σ.stk.length fn fr1 σ1 = some (v, σ') → Post g w ow { tmps := xs ++ Array.replicate (fn.ntmps - xs.size) undef, defers := [] } fr1 σ1 a' w' →
      LeavesInM (FW none) 0 P fn a'.tmps (fun e w'=>match e with | .returned v_1=>∃g' ow',Ret g w ow v σ' v_1 g' w' ow' | _=>False) a'.defers .returning w':=by
    intro fr1 σ1 a' w' h hpost
    obtain ⟨g',ow',r1,W1,bs,hds,hnd,hbs⟩:=hpost.out
    rw [List.append_nil] at hds
    rw [hds]
    refine leaves_marks bs hnd (fun b hb=>⟨(hbs b hb).1,(hbs b hb).2.1⟩) r1 W1 fun w'' r2 W2 => ?_
    obtain ⟨rv,g2,ow2,h1,h2⟩:=finish_run r2 W2 r.ss.slen h
    exact ⟨rv,h1,g2,ow2,h2⟩
  split at h
  · rename_i fr1 σ1 he
    exact code_wp (rd:=none) hC hn hm c (plansOK_body hp hf hb) 0 _ _ _ _ _ he g w ow _ _ r0 fun a' w' hpost=>ends h hpost
  · rename_i fr1 σ1 he
    exact code_wp (rd:=none) hC hn hm c (plansOK_body hp hf hb) 0 _ _ _ _ _ he g w ow _ _ r0 fun a' w' hpost=>ends h hpost
  · cases h
theorem loopOf_some {h:Nat} {l:LoopA} (e:loopOf σ h=some l):σ.heap[h]? = some (.loop l):=by
  unfold loopOf at e
  split at e
  · rename_i l' hl; injection e with e; subst e; exact hl
  · cases e
theorem setAll_V : ∀ (ts : List Tmp) (vs : List AV) (xs : List Value) {fr : Fr} {tm : Array Value}, VL g w vs xs → VL g w fr tm.toList →
    VL g w (setAll ts vs fr) ((ts.zip xs).foldl (fun tm (t,v)=>tm.setIfInBounds t v) tm).toList
  | [],_,_,fr,tm,_,h=>by cases ‹List AV› <;> exact h
  | t :: ts,[],xs,fr,tm,hv,h=>by rw [hv.nil_left]; exact h
  | t :: ts,v :: vs,xs,fr,tm,hv,h=>by
    obtain ⟨x,xs',rfl,h1,h2⟩:=hv.cons_left
    simp only [setAll,List.zip_cons_cons,List.foldl_cons]
    refine setAll_V ts vs xs' h2 ?_
    refine VL.of_get (by simp [h.length]) fun i y hi => ?_
    rw [Array.toList_setIfInBounds]
    by_cases e:i=t
    · subst e
      have hl:i < fr.length:=by
        rcases Nat.lt_or_ge i fr.length with h | h
        · exact h
        · rw [List.getElem?_eq_none (by simpa using h)] at hi; simp at hi
      rw [List.getElem?_set_self hl] at hi
      injection hi with hi; subst hi
      exact ⟨x,by rw [List.getElem?_set_self (by rw [h.length]; exact hl)],h1⟩
    · rw [List.getElem?_set_ne (Ne.symm e)] at hi
      obtain ⟨u,k1,k2⟩:=h.get hi
      exact ⟨u,by rw [List.getElem?_set_ne (Ne.symm e)]; exact k1,k2⟩
theorem look_VL {fr:Fr} {tm:Array Value} (s:SF g w ow fr tm):VL g w (fr.map AV.look) tm.toList:=by
  refine VL.of_get (by rw [List.length_map,Array.length_toList]; exact s.size) fun i v hi => ?_
  rw [List.getElem?_map] at hi
  obtain ⟨x,h1,rfl⟩:=map_some hi
  obtain ⟨y,h2,h3⟩:=s.val i x h1
  exact ⟨y,by rw [Array.getElem?_toList]; exact h2,h3.look⟩
def Own.mem (ow:Own):Own:=fun p=>match p with | .slot _=>Nobody | p=>ow p
theorem Own.mem_sub (ow:Own):∀p b i,ow.mem p b i→ow p b i:=by
  intro p b i hp
  cases p with
  | slot j=>exact (show Nobody b i from hp).elim
  | stk m j=>exact hp
  | heap m j=>exact hp
theorem Rel.mem (r:Rel g w ow fr tm σ) {fr':Fr} {tm':Array Value} (h:VL g w fr' tm'.toList):Rel g w ow.mem fr' tm' σ where
  ss:=r.ss.own (fun _ _ _ _ h=>h) fun _ _ _ _ h=>h
  own:=⟨fun p b i hp=>r.own.wr _ _ _ (ow.mem_sub _ _ _ hp),fun p b i hp=>r.own.box _ _ _ (ow.mem_sub _ _ _ hp),fun p q b i hp hq=>r.own.one _ _ _ _ (ow.mem_sub _ _ _ hp) (ow.mem_sub _ _ _ hq)⟩
  sf:=⟨by have:=h.length; simpa using this,fun i x hi=>by
    obtain ⟨v,h1,h2⟩:=h.get hi
    exact ⟨v,by rw [←Array.getElem?_toList]; exact h1,PV.of h2⟩⟩
theorem round_runs (hC : Sound P C) (hm : P.follows .mixedOrders = true) (hn : ∀ (f : FuncId) (fn : Func), P.funcs[f]? = some fn → fn.name ≠ "runtime.NumGoroutine") {n h b : Nat} {args : List AV} {v : AV} (he : evRound C P cfg n h args σ = some (v, σ'))
    {xs:Array Value} (r:Rel g w ow args xs σ) (hb:g.hb[h]? = some b):Runs P (Instr.yield b xs) w fun rv w'=>∃g' ow',Ret g w ow v σ' rv g' w' ow':=by
  unfold evRound at he
  split at he
  case h_2=>cases he
  rename_i l hl
  split at he
  case isFalse=>cases he
  rename_i hc
  simp only [Bool.and_eq_true,decide_eq_true_eq] at hc
  obtain ⟨⟨hlen,hpa⟩,hpb⟩:=hc
  split at he
  case h_2=>cases he
  rename_i fr1 σ1 has
  split at he
  case h_2=>cases he
  rename_i l1 hl1
  split at he
  case isFalse=>cases he
  rename_i hrdy
  simp only [Bool.and_eq_true,Option.isNone_iff_eq_none] at hrdy
  split at he
  case h_2=>cases he
  rename_i e fr2 σ2 hbd
  split at he
  case h_2=>cases he
  rename_i l2 hl2
  simp only [Option.some.injEq,Prod.mk.injEq] at he
  obtain ⟨rfl,rfl⟩:=he
  obtain ⟨b0,q,hb0,hq⟩:=r.ss.loops _ _ (loopOf_some hl)
  have:b0=b:=Option.some.inj (hb0.symm.trans hb)
  subst this
  have hsz:xs.size=q.params.size:=by rw [r.sf.size,hlen,←hq.params]; simp
  refine .inr (.inr ⟨b0,q.fn,_,q.assign,q.body,run_yield hq.obj hsz,roundIn_of_wpIn trivial ?_⟩)
  have hfold:VL g w (setAll l.params (args.map AV.look) l.fr) ((q.params.zip xs).foldl (fun tmps (t,a)=>tmps.setIfInBounds t a) q.tmps).toList:=by
    have:=setAll_V q.params.toList (args.map AV.look) xs.toList (look_VL r.sf) hq.fr
    rw [←Array.toList_zip,Array.foldl_toList,hq.params] at this
    exact this
  have r0:=r.mem hfold
  rw [hq.assign]
  refine code_wp (rd:=some b0) hC hn hm l.assign hpa 0 _ _ _ _ _ has g w ow.mem { tmps:=_,defers:=[] } _ r0 fun a1 w1 hp1 => ?_
  obtain ⟨g1,ow1,r1,W1,_⟩:=hp1.out
  obtain ⟨b1,q1,hb1,hq1⟩:=r1.ss.loops _ _ (loopOf_some hl1)
  have:b1=b0:=Option.some.inj (hb1.symm.trans (W1.tr.hb _ _ hb))
  subst this
  have hq1r:q1.state = .ready:=by rw [hq1.state]; unfold loopState; rw [hrdy.1]; rfl
  refine ⟨_,run_beginRound hq1.obj hq1r,?_⟩
  obtain ⟨r2,W2⟩:=r1.setLoop (l':={ l1 with ready:=false }) (q':={ q1 with state := .busy }) (loopOf_some hl1) hb1 hq1 hq1.params hq1.assign hq1.body (by unfold loopState; simp [hrdy.2]) hq1.pending rfl rfl
  rw [hq.body]
  refine code_wp (rd:=some b1) hC hn hm l.body hpb 0 _ _ _ _ _ hbd g1 _ ow1 a1 _ r2 fun a2 w2 hp2 => ?_
  obtain ⟨g3,ow3,r3,W3,_⟩:=hp2.out
  obtain ⟨b3,q3,hb3,hq3⟩:=r3.ss.loops _ _ (loopOf_some hl2)
  have:b3=b1:=Option.some.inj (hb3.symm.trans (W3.tr.hb _ _ hb1))
  subst this
  have Wmem:Way g w ow g w ow.mem:=Way.only ow.mem_sub
  have W13:Way g w ow g3 w2 ow3:=((Wmem.trans W1 r.ss.lt).trans W2 r.ss.lt).trans W3 r.ss.lt
  have fin : ∀ (jump : Option Ex), (jump.isNone = decide (e = .normal)) → (jump = if e = .normal then none else some e) →
      ∃v w',(Instr.endRound b3 (jump.map Ex.toCode)).run P w2 = .ok v w'∧∃g' ow',Ret g w ow (.bool (e = .normal)) { AM.setLoop σ2 h { l2 with ready:=decide (e = .normal),pending:=if e = .normal then none else some e } with stk:=σ2.stk.take σ.stk.length } v g' w' ow':=by
    intro jump hj hj'
    refine ⟨_,_,run_endRound (jump.map Ex.toCode) hq3.obj,?_⟩
    have hjn:(jump.map Ex.toCode).isNone=decide (e = .normal):=by rw [←hj]; cases jump <;> rfl
    obtain ⟨r4,W4⟩:=r3.setLoop (l':={ l2 with ready:=decide (e = .normal),pending:=if e = .normal then none else some e }) (q':={ q3 with state:=if (jump.map Ex.toCode).isNone then .ready else .done,pending:=jump.map Ex.toCode }) (loopOf_some hl2) hb3 hq3 hq3.params hq3.assign hq3.body
      (by rw [hjn]; unfold loopState; by_cases hen:e = .normal <;> simp [hen]) (by rw [hj']) rfl rfl
    have r5:=r4.mem (fr':=[.bool (e = .normal)]) (tm' := #[.bool (jump.map Ex.toCode).isNone]) (by rw [hjn]; exact .sc (.bool (decide (e = .normal))) .nil)
    have W5:Way g w ow g3 (w2.putObj b3 (.loop { q3 with state:=if (jump.map Ex.toCode).isNone then .ready else .done,pending:=jump.map Ex.toCode })) ow3.mem:=(W13.trans W4 r.ss.lt).trans (Way.only ow3.mem_sub) r.ss.lt
    exact ⟨g3.cut σ.stk.length,ow3.mem,r5.cut σ.stk.length rfl,W5.cut r.ss.slen,W5.sb_cut r.ss.slen⟩
  cases e with
  | normal=>exact fin none rfl rfl
  | exit id=>exact fin (some (.exit id)) rfl rfl
  | ret=>exact fin (some .ret) rfl rfl
def PrimOK (P:Program) (cfg:Cfg):Prop :=
  ∀(f:FuncId) p,cfg.prim f=some p→∀(args:List AV) (σ:St) (v:AV) (σ':St),p args σ=some (v,σ')→∀(g:G) (w:World) (ow:Own) (xs:Array Value),Rel g w ow args xs σ →
    Runs P (callFunc f xs) w fun rv w'=>∃g' ow',Ret g w ow v σ' rv g' w' ow'
theorem ev_sound (hm:P.follows .mixedOrders=true) (hp:plansOK P cfg=true) (hn:∀(f:FuncId) (fn:Func),P.funcs[f]? = some fn→fn.name≠"runtime.NumGoroutine") (hpr:PrimOK P cfg):∀(n:Nat),Sound P (ev P cfg n)
  | 0=>fun t args σ v σ' he=>by simp only [ev] at he; cases he
  | n + 1=>fun t args σ v σ' he g w ow xs r s hs=>by
    cases t with
    | fn f =>
      simp only [Tgt.sem,Option.some.injEq] at hs
      subst hs
      simp only [ev] at he
      split at he
      · rename_i p hp'
        exact hpr f p hp' args σ v σ' he g w ow xs r
      · exact body_runs (ev_sound hm hp hn hpr n) hm hp hn he r
    | yield h =>
      simp only [ev] at he
      simp only [Tgt.sem] at hs
      obtain ⟨b,hb,rfl⟩:=map_some hs
      exact round_runs (ev_sound hm hp hn hpr n) hm hn he r hb
end
end Go.AM
namespace Go.AM
open Go
def asBytes (σ:St) (x:AV):Option (List UInt8) :=
  match x with
  | .s .nilS=>some []
  | .s (.str l)=>some l
  | .list _ 1 es=>bytesIn es
  | .row r off len _=>(readCells σ (.ptr r off) len).bind bytesIn
  | _=>none
def primIndexByte:List AV→St→Option (AV×St)
  | [.s (.str l),.s (.int .u8 c)],σ=>some (.i (Lib.indexByte l c.toNat.toUInt8),σ)
  | _,_=>none
def primCompare:List AV→St→Option (AV×St)
  | [a,b],σ=>match asBytes σ a,asBytes σ b with
    | some x,some y=>some (.i (Lib.compareBytes x y),σ)
    | _,_=>none
  | _,_=>none
section
variable {P:Program} {cfg:Cfg} {f:FuncId} {g g':G} {w w':World} {ow ow':Own} {σ σ':St} {fr fr':Fr} {tm:Array Value}
theorem Ret.scalar (r:Rel g w ow fr tm σ) (x:Sc):∃g' ow',Ret g w ow (.s x) σ x.toV g' w ow':=by
  let ow':Own:=fun p=>match p with | .slot _=>Nobody | p=>ow p
  have hsub:∀p b i,ow' p b i→ow p b i:=by
    intro p b i hp
    cases p with
    | slot j=>exact (show Nobody b i from hp).elim
    | stk m j=>exact hp
    | heap m j=>exact hp
  refine ⟨g,ow',⟨r.ss.own (fun _ _ _ _ h=>h) fun _ _ _ _ h=>h,⟨fun p b i hp=>r.own.wr _ _ _ (hsub _ _ _ hp),fun p b i hp=>r.own.box _ _ _ (hsub _ _ _ hp),fun p q b i hp hq=>r.own.one _ _ _ _ (hsub _ _ _ hp) (hsub _ _ _ hq)⟩,⟨rfl,fun i y hi => ?_⟩⟩,Way.only hsub,rfl⟩
  cases i with
  | zero=>simp at hi; subst hi; exact ⟨_,rfl,PV.of (.sc x .nil)⟩
  | succ i=>simp at hi
theorem loadBytes_cells {ns : List Int} {ad : Addr} (h : ∀ (i : Nat) (v : Value), (ns.map (Value.int .u8))[i]? = some v → w.cell? (ad.add i) = some v) :
    (Extern.Bytes.loadBytes ad ns.length .empty).run P w = .ok ⟨(ns.map fun n=>UInt8.ofNat n.toNat).toArray⟩ w:=by
  rw [Lib.run_loadBytesX w ns ad .empty fun j x hj=>h j _ (by rw [List.getElem?_map,hj]; rfl)]
  congr 2
  simp [Lib.bytesOf]
theorem addr_add {a:Addr} (hs:a.spot=none) (i:Nat):a.add i=⟨a.block,a.off + i,none⟩:=by
  obtain ⟨b,o,s⟩:=a
  dsimp only at hs; subst hs
  unfold Addr.add; split <;> simp_all
theorem bytes_run (s:SS g w ow σ) {o:Nat→Nat→Prop} {x:AV} {v:Value} {l:List UInt8} (h:asBytes σ x=some l) (hx:PV g w o x v):(Extern.Bytes.bytesOf v).run P w = .ok ⟨l.toArray⟩ w:=by
  have list : ∀ {es : List AV} {ad : Addr} {n c : Nat} {xs : List Value}, bytesIn es = some l → n = es.length → (es = [] ∨ ad.spot = none) → VL g w (es.flatMap AV.cells) xs → (∀ (i : Nat) (v : Value), xs[i]? = some v → w.cell? ⟨ad.block, ad.off + i, none⟩ = some v) →
      (Extern.Bytes.bytesOf (.slice (some ad) n c)).run P w = .ok ⟨l.toArray⟩ w:=by
    intro es ad n c xs hb hn hs hv hc
    rw [bytesIn_cells hb] at hv
    obtain ⟨ns,k1,k2⟩:=bytesIn_V hv hb
    subst k1; subst k2
    have hl:ns.length=n:=by have:=hv.length; simp at this; omega
    show (Extern.Bytes.loadBytes ad n .empty).run P w=_
    rw [←hl]
    exact loadBytes_cells fun i v hi=>by
      rcases hs with rfl | hs
      · have hz:ns.length=0:=by rw [hl,hn]; rfl
        have:=(List.getElem?_eq_some_iff.1 hi).1
        simp at this; omega
      · rw [addr_add hs]; exact hc i v hi
  unfold asBytes at h
  split at h
  · injection h with h; subst h
    have:=(show V g w (.s .nilS) v from hx).sc_inv
    subst this; rfl
  · injection h with h; subst h
    have:=(show V g w (.s (.str _)) v from hx).sc_inv
    subst this; rfl
  · rename_i fl es
    have shared:V g w (.list .sh 1 es) v→(Extern.Bytes.bytesOf v).run P w = .ok ⟨l.toArray⟩ w:=by
      intro hV
      cases hV with
      | list h1 h2 h3 h4 h5 h6 h7 h8 h9 _=>exact list h h2 h5 h8 fun i v hi=>(h9 i v hi).1
      | lnil _ _ =>
        have:l=[]:=by simpa [bytesIn] using h.symm
        subst this; rfl
    cases fl with
    | sh=>exact shared hx
    | own=>exact shared hx.1
    | full =>
      cases (show V g w (.list .full 1 es) v from hx) with
      | list h1 h2 h3 h4 h5 h6 h7 h8 h9 _=>exact list h h2 h5 h8 fun i v hi=>(h9 i v hi).1
    | uniq =>
      obtain ⟨a,cap,xs,u⟩:=hx
      have:=u.val
      subst this
      exact list h rfl (.inr u.spot) u.vl u.cell
  · rename_i r off len cap
    obtain ⟨b,c,rfl,hr,_,_⟩:=(show V g w (.row r off len cap) v from hx).row_inv
    cases hc:readCells σ (.ptr r off) len with
    | none=>rw [hc] at h; cases h
    | some cs =>
      rw [hc] at h
      simp only [Option.bind_some] at h
      obtain ⟨a,xs,e,hs,hl,hv,hcell,hrd⟩:=read_run s hc (.ptr hr .nil)
      simp only [Value.pointer.injEq,Option.some.injEq] at e
      subst e
      obtain ⟨ns,k1,k2⟩:=bytesIn_V hv h
      subst k1; subst k2
      have hl':ns.length=len:=by have:=hv.length; simp at this; omega
      show (Extern.Bytes.loadBytes _ len .empty).run P w=_
      rw [←hl']
      exact loadBytes_cells hrd
  · cases h
theorem SF.two {x y:AV} {xs:Array Value} (s:SF g w ow [x,y] xs):∃u v,xs = #[u,v]∧PV g w (ow (.slot 0)) x u∧PV g w (ow (.slot 1)) y v:=by
  obtain ⟨u,h1,h2⟩:=s.val 0 x rfl
  obtain ⟨v,h3,h4⟩:=s.val 1 y rfl
  refine ⟨u,v,?_,h2,h4⟩
  have hsz:xs.size=2:=s.size
  apply Array.ext_getElem?
  intro i
  match i with
  | 0=>rw [h1]; rfl
  | 1=>rw [h3]; rfl
  | i + 2=>rw [Array.getElem?_eq_none (by omega)]; simp
theorem indexByte_prim {fn : Func} (hf : P.funcs[f]? = some fn) (hname : (fn.name == "runtime.NumGoroutine") = false) (hb : fn.body.isNone = true) (hn : Extern.findNext fn = none) (he : Extern.find fn = some Extern.BytealgIndexByte.indexByte)
    {args:List AV} {v:AV} (h:primIndexByte args σ=some (v,σ')) {xs:Array Value} (r:Rel g w ow args xs σ):Runs P (callFunc f xs) w fun rv w'=>∃g' ow',Ret g w ow v σ' rv g' w' ow':=by
  unfold primIndexByte at h
  split at h
  case h_2=>cases h
  rename_i l c
  simp only [Option.some.injEq,Prod.mk.injEq] at h
  obtain ⟨rfl,rfl⟩:=h
  obtain ⟨u,v,rfl,h1,h2⟩:=r.sf.two
  have e1:=(show V g w (.s (.str l)) u from h1).sc_inv
  have e2:=(show V g w (.s (.int .u8 c)) v from h2).sc_inv
  subst e1; subst e2
  refine .inr (.inl ⟨_,w,?_,Ret.scalar r (.int .i64 (Lib.indexByte l c.toNat.toUInt8))⟩)
  rw [run_callFunc_extern hf hname hb hn he]
  show (Sem.run P (Extern.BytealgIndexByte.indexByte #[.string ⟨l.toArray⟩,.int .u8 c]) w).andThen _=_
  rw [run_indexByte_string,Lib.firstIdx_eq]
  rfl
theorem compare_prim {fn : Func} (hf : P.funcs[f]? = some fn) (hname : (fn.name == "runtime.NumGoroutine") = false) (hb : fn.body.isNone = true) (hn : Extern.findNext fn = none) (he : Extern.find fn = some Extern.BytealgCompare.compare)
    {args:List AV} {v:AV} (h:primCompare args σ=some (v,σ')) {xs:Array Value} (r:Rel g w ow args xs σ):Runs P (callFunc f xs) w fun rv w'=>∃g' ow',Ret g w ow v σ' rv g' w' ow':=by
  unfold primCompare at h
  split at h
  case h_2=>cases h
  rename_i x y
  split at h
  case h_2=>cases h
  rename_i lx ly hx hy
  simp only [Option.some.injEq,Prod.mk.injEq] at h
  obtain ⟨rfl,rfl⟩:=h
  obtain ⟨u,v,rfl,h1,h2⟩:=r.sf.two
  refine .inr (.inl ⟨_,w,?_,Ret.scalar r (.int .i64 (Lib.compareBytes lx ly))⟩)
  rw [run_callFunc_extern hf hname hb hn he]
  show (Sem.run P (do pure (goInt (Extern.BytealgCompare.cmp (←Extern.Bytes.bytesOf u) (←Extern.Bytes.bytesOf v)))) w).andThen _=_
  rw [Sem.run_bind,bytes_run r.ss hx h1]
  simp only [Result.andThen_ok]
  rw [Sem.run_bind,bytes_run r.ss hy h2]
  simp only [Result.andThen_ok]
  rw [Lib.cmp_eq]
  rfl
def G.none:G:=⟨[],[],fun _ _=>False⟩
def Own.none:Own:=fun _=>Nobody
theorem rel_none (w:World) {args:List AV} {xs:Array Value} (hl:xs.size=args.length) (h:∀(i:Nat) (a:AV),args[i]? = some a→∃v,xs[i]? = some v∧V G.none w a v):Rel G.none w Own.none args xs ⟨[],[]⟩ where
  ss:=⟨rfl,rfl,by simp [G.none],fun _ _ h=>h.elim,fun n cs h=>by simp at h,fun n cs h=>by simp at h,fun n es c h=>by simp at h,fun n l h=>by simp at h,fun n l h=>by simp at h,fun n h=>by simp at h⟩
  own:=⟨fun _ _ _ h=>h.elim,fun _ _ _ h=>h.elim,fun _ _ _ _ h=>h.elim⟩
  sf:=⟨hl,fun i a hi=>by obtain ⟨v,h1,h2⟩:=h i a hi; exact ⟨v,h1,PV.of h2⟩⟩
theorem may_none {b o:Nat} (h:May G.none Own.none b o):False:=by
  rcases h with ⟨_,h⟩ | ⟨_,h⟩ <;> exact h
end
end Go.AM
namespace Go.AM
open Go
inductive WkL:List AV→List AV→Prop
  | nil:WkL [] []
  | same {a:AV} {azz bs:List AV}:WkL azz bs→WkL (a :: azz) (a :: bs)
  | nilS {sz:Nat} {azz bs:List AV}:0 < sz→WkL azz bs→WkL (.s .nilS :: azz) (.list .sh sz [] :: bs)
  | full {fl:Fl} {sz:Nat} {es:List AV} {azz bs:List AV}:WkL azz bs→WkL (.list fl sz es :: azz) (.list .sh sz es :: bs)
  | list {fl:Fl} {sz:Nat} {es es':List AV} {azz bs:List AV}:WkL (es.flatMap AV.cells) (es'.flatMap AV.cells)→es'.length=es.length→Elems sz es'→AV.under.go 0 es'=true→WkL azz bs→WkL (.list fl sz es :: azz) (.list .sh sz es' :: bs)
  | agg {cs cs':List AV} {azz bs:List AV}:WkL cs cs'→(∀c∈cs',c.isCell=true)→WkL azz bs→WkL (.agg cs :: azz) (.agg cs' :: bs)
  | tup {cs cs':List AV} {azz bs:List AV}:WkL cs cs'→WkL azz bs→WkL (.tup cs :: azz) (.tup cs' :: bs)
  | rop {cs cs':List AV} {azz bs:List AV}:WkL cs cs'→(∀c∈cs',c.isCell=true)→AV.under.go 0 cs'=true→WkL azz bs→WkL (.rop cs :: azz) (.rop cs' :: bs)
theorem WkL.refl:∀(l:List AV),WkL l l
  | [] => .nil
  | _ :: l => .same (WkL.refl l)
theorem WkL.app {azz bs cs ds:List AV} (h:WkL azz bs) (h':WkL cs ds):WkL (azz ++ cs) (bs ++ ds):=by
  induction h with
  | nil=>exact h'
  | same _ ih=>exact .same ih
  | nilS h _ ih=>exact .nilS h ih
  | full _ ih=>exact .full ih
  | list h1 h2 h3 h4 _ _ ih=>exact .list h1 h2 h3 h4 ih
  | agg h1 h2 _ _ ih=>exact .agg h1 h2 ih
  | tup h1 _ _ ih=>exact .tup h1 ih
  | rop h1 h2 h3 _ _ ih=>exact .rop h1 h2 h3 ih
theorem VL.full_sh {g:G} {w:World} {fl:Fl} {sz:Nat} {es:List AV} {v:Value} (h:V g w (.list fl sz es) v):V g w (.list .sh sz es) v:=by
  cases h with
  | list h1 h2 h3 h4 h5 h6 h7 h8 h9 _=>exact .list (.inl rfl) h2 h3 h4 h5 h6 h7 h8 h9 .nil
  | lnil h1 _=>exact .lnil h1 .nil
theorem VL.weak {g:G} {w:World} {azz bs:List AV} (h:WkL azz bs):∀{vs:List Value},VL g w azz vs→VL g w bs vs:=by
  induction h with
  | nil=>exact fun h=>h
  | same _ ih =>
    intro vs hv
    obtain ⟨v,vs',rfl,h1,h2⟩:=hv.cons_left
    exact VL.cons_of h1 (ih h2)
  | nilS h _ ih =>
    intro vs hv
    cases hv with
    | sc _ t=>exact .lnil h (ih t)
  | full _ ih =>
    intro vs hv
    obtain ⟨v,vs',rfl,h1,h2⟩:=hv.cons_left
    exact VL.cons_of h1.full_sh (ih h2)
  | list h1 h2 h3 h4 _ ih1 ih =>
    intro vs hv
    obtain ⟨v,vs',rfl,k1,k2⟩:=hv.cons_left
    refine VL.cons_of ?_ (ih k2)
    cases k1.full_sh with
    | list c1 c2 c3 c4 c5 c6 c7 c8 c9 _=>exact .list (.inl rfl) (by rw [c2,h2]) c3 c4 (c5.imp (fun e=>List.length_eq_zero_iff.1 (by rw [h2,e]; rfl)) id) h3 h4 (ih1 c8) c9 .nil
    | lnil c1 _ =>
      have:_=[]:=List.length_eq_zero_iff.1 (by simpa using h2)
      subst this
      exact .lnil c1 .nil
  | agg h1 h2 _ ih1 ih =>
    intro vs hv
    cases hv with
    | agg c1 c2 t=>exact .agg h2 (ih1 c2) (ih t)
  | tup h1 _ ih1 ih =>
    intro vs hv
    cases hv with
    | tup c2 t=>exact .tup (ih1 c2) (ih t)
  | rop h1 h2 h3 _ ih1 ih =>
    intro vs hv
    cases hv with
    | rop c1 c2 c3 c4 c5 t=>exact .rop c1 h2 h3 (ih1 c4) c5 (ih t)
theorem taken_fst (fr:Fr) (i:Nat):(taken false fr (.tmp i)).1=(fr.getD i .undef).sh:=by
  simp only [taken,Bool.false_eq_true,if_false]
  split
  · rename_i h; rw [h]; rfl
  · rfl
theorem takenF_set (fr:Fr) (i:Nat) (b:AV):(taken false fr (.tmp i)).2.set i b=fr.set i b:=by
  simp only [taken,Bool.false_eq_true,if_false]
  split
  · simp
  · rfl
theorem Rel.weakAt {g : G} {w : World} {ow : Own} {fr : Fr} {tm : Array Value} {σ : St} (r : Rel g w ow fr tm σ) {i : Nat} {a b : AV} (hi : fr[i]? = some a) (h : WkL [a.sh] [b]) :
    ∃g' ow',Rel g' w ow' (fr.set i b) tm σ∧Way g w ow g' w ow'∧g'.sb=g.sb∧g'.hb=g.hb:=by
  obtain ⟨g1,ow1,h1,h2,h3,h4,h5,h6,h7,h8,h9⟩:=taken_false (a:=⟨tm,[]⟩) r (.tmp i)
  have hg:fr.getD i .undef=a:=by simp [List.getD,hi]
  rw [taken_fst,hg] at h2
  have hl:i < fr.length:=(List.getElem?_eq_some_iff.1 hi).1
  have hli:i < tm.size:=by rw [r.sf.size]; exact hl
  have hv:V g1 w b (tm.getD i undef):=VL.weak h h2
  refine ⟨g1,ow1,⟨h1.ss,h1.own,?_⟩,⟨h3,fun b o hm => .inl ?_,fun b o hw => ?_,fun b hb => .inl (h9▸hb)⟩,h8,h9⟩
  · have hs:=h1.sf.set (d:=i) (ow':=ow1) (PV.of hv) fun _ _=>rfl
    rw [takenF_set] at hs
    have e:tm.setIfInBounds i (tm.getD i undef)=tm:=by
      apply Array.ext_getElem?
      intro j
      by_cases e:j=i
      · subst e; rw [Array.getElem?_setIfInBounds_self_of_lt hli]; simp [Array.getD,hli]
      · rw [Array.getElem?_setIfInBounds_ne (Ne.symm e)]
    have e':({ tmps:=tm,defers:=[] }:Act).tmps=tm:=rfl
    rw [e',e] at hs
    exact hs
  · rcases hm with ⟨k1,k2⟩ | ⟨p,hp⟩
    · exact .inl ⟨h6 b k1,h5 b o k2⟩
    · exact .inr ⟨p,h4 p b o hp⟩
  · rcases h7 b o hw with h | ⟨p,hp⟩
    · exact .inr h
    · exact .inl (.inr ⟨p,hp⟩)
end Go.AM
namespace Go.AM
open Go
def AV.bare:AV→Bool
  | .s _ | .undef=>true
  | .list fl sz es=>decide (fl = .sh∨fl = .full) && es.isEmpty
  | .agg cs=>go cs && cs.all AV.isCell
  | .tup vs=>go vs
  | _=>false
  where go:List AV→Bool
  | []=>true
  | x :: xs=>AV.bare x && go xs
def AV.alone:AV→Bool
  | .list .uniq _ es=>AV.bare.go (es.flatMap AV.cells) && !es.isEmpty
  | v=>v.bare
inductive RoL (σ:St):List AV→List AV→Prop
  | nil:RoL σ [] []
  | bare {a:AV} {azz bs:List AV}:a.bare=true→RoL σ azz bs→RoL σ (a :: azz) (a :: bs)
  | any {a:AV} {azz bs:List AV}:RoL σ azz bs→RoL σ (a :: azz) (.undef :: bs)
  | list {fl:Fl} {sz:Nat} {es azz bs:List AV}:AV.bare.go (es.flatMap AV.cells)=true→RoL σ azz bs→RoL σ (.list fl sz es :: azz) (.list .sh sz es :: bs)
  | nilS {sz:Nat} {azz bs:List AV}:0 < sz→RoL σ azz bs→RoL σ (.s .nilS :: azz) (.list .sh sz [] :: bs)
  | agg {cs cs' azz bs:List AV}:RoL σ cs cs'→(∀c∈cs',c.isCell=true)→RoL σ azz bs→RoL σ (.agg cs :: azz) (.agg cs' :: bs)
  | ptr {r:Ref} {off:Nat} {cs cs' azz bs:List AV}:boxOf σ r=some cs→RoL σ (cs.drop off) cs'→(∀c∈cs',c.isCell=true)→AV.under.go 0 cs'=true→RoL σ azz bs→RoL σ (.ptr r off :: azz) (.rop cs' :: bs)
  | row {r:Ref} {off len cap sz:Nat} {cs es azz bs:List AV}:boxOf σ r=some cs→es.flatMap AV.cells=(cs.drop off).take (len * sz)→es.length=len→0 < sz→Elems sz es→AV.bare.go (es.flatMap AV.cells)=true→AV.under.go 0 es=true→RoL σ azz bs→RoL σ (.row r off len cap :: azz) (.list .sh sz es :: bs)
  | fn {f:Fn} {a c a' c' azz bs:List AV}:RoL σ a a'→RoL σ c c'→RoL σ azz bs→RoL σ (.fn f a c :: azz) (.fn f a' c' :: bs)
section
variable {g g':G} {w w':World} {ow ow':Own} {σ σ':St}
theorem VL.bare {azz:List AV} {vs:List Value} (h:VL g w azz vs):AV.bare.go azz=true→VL g' w' azz vs:=by
  induction h with
  | nil=>exact fun _ => .nil
  | sc x _ ih=>intro hb; simp only [AV.bare.go,AV.bare,Bool.true_and] at hb; exact .sc x (ih hb)
  | undef v _ ih=>intro hb; simp only [AV.bare.go,AV.bare,Bool.true_and] at hb; exact .undef v (ih hb)
  | agg h0 _ _ ih1 ih=>intro hb; simp only [AV.bare.go,AV.bare,Bool.and_eq_true] at hb; exact .agg h0 (ih1 hb.1.1) (ih hb.2)
  | tup _ _ ih1 ih=>intro hb; simp only [AV.bare.go,AV.bare,Bool.and_eq_true] at hb; exact .tup (ih1 hb.1) (ih hb.2)
  | list h1 h2 h3 h4 h5 h6 h7 h8 h9 _ ih1 ih =>
    intro hb
    simp only [AV.bare.go,AV.bare,Bool.and_eq_true,List.isEmpty_iff] at hb
    obtain ⟨⟨_,rfl⟩,hb⟩:=hb
    have:=h8.nil_left
    subst this
    exact .list h1 h2 h3 h4 h5 h6 h7 .nil (fun i v hi=>by simp at hi) (ih hb)
  | lnil h1 _ ih=>intro hb; simp only [AV.bare.go,AV.bare,Bool.and_eq_true] at hb; exact .lnil h1 (ih hb.2)
  | rop=>intro hb; simp [AV.bare.go,AV.bare] at hb
  | ptr=>intro hb; simp [AV.bare.go,AV.bare] at hb
  | row=>intro hb; simp [AV.bare.go,AV.bare] at hb
  | map=>intro hb; simp [AV.bare.go,AV.bare] at hb
  | yield=>intro hb; simp [AV.bare.go,AV.bare] at hb
  | lenv=>intro hb; simp [AV.bare.go,AV.bare] at hb
  | fn=>intro hb; simp [AV.bare.go,AV.bare] at hb
inductive PVs (g:G) (w:World):List AV→List Value→Prop
  | nil:PVs g w [] []
  | cons {o:Nat→Nat→Prop} {a:AV} {v:Value} {azz:List AV} {vs:List Value}:PV g w o a v→PVs g w azz vs→PVs g w (a :: azz) (v :: vs)
theorem PVs.of:∀{azz:List AV} {vs:List Value},VL g w azz vs→PVs g w azz vs
  | [],_,h=>by rw [h.nil_left]; exact .nil
  | _ :: azz,_,h=>by
    obtain ⟨v,vs',rfl,h1,h2⟩:=h.cons_left
    exact .cons (PV.of (o:=Nobody) h1) (PVs.of h2)
theorem PVs.get:∀{azz:List AV} {vs:List Value},vs.length=azz.length→(∀(i:Nat) (a:AV),azz[i]? = some a→∃v o,vs[i]? = some v∧PV g w o a v)→PVs g w azz vs
  | [],vs,hl,_=>by
    have:vs=[]:=List.length_eq_zero_iff.1 hl
    subst this; exact .nil
  | a :: azz,vs,hl,h=>by
    cases vs with
    | nil=>simp at hl
    | cons v vs =>
      obtain ⟨v',o,h1,h2⟩:=h 0 a rfl
      simp at h1; subst h1
      exact .cons h2 (PVs.get (by simpa using hl) fun i a hi=>by
        obtain ⟨u,o,h3,h4⟩:=h (i + 1) a (by simpa using hi)
        exact ⟨u,o,by simpa using h3,h4⟩)
theorem BoxOK.pvs {o : Nat → Nat → Nat → Prop} {b : Nat} {cs : List AV} {xs : Array Value} {E : TypeId} {fz : Nat × Nat} (h : BoxOK g w o b cs xs E fz) (off n : Nat) :
    PVs g w ((cs.drop off).take n) (((xs.toList.take cs.length).drop off).take n)∧∀(i:Nat) (v:Value),(((xs.toList.take cs.length).drop off).take n)[i]? = some v→w.cell? ⟨b,off + i,none⟩=some v:=by
  have hle:=h.le
  constructor
  · refine PVs.get (by simp; omega) fun i a hi => ?_
    rw [List.getElem?_take,List.getElem?_drop] at hi
    split at hi
    · rename_i hin
      obtain ⟨v,h1,h2,_⟩:=h.val _ _ hi
      refine ⟨v,_,?_,h2⟩
      have hlt:=(List.getElem?_eq_some_iff.1 hi).1
      rw [List.getElem?_take,if_pos hin,List.getElem?_drop,List.getElem?_take,if_pos hlt]
      simpa using h1
    · cases hi
  · intro i v hi
    rw [List.getElem?_take] at hi
    split at hi
    · rw [List.getElem?_drop,List.getElem?_take] at hi
      split at hi
      · simp only [World.cell?,h.obj]
        simpa using hi
      · cases hi
    · cases hi
theorem AV.bare_common {a:AV} (h:a.bare=true):a.common=true:=by
  cases a with
  | list fl sz es=>cases fl <;> simp_all [AV.bare,AV.common]
  | _=>rfl
theorem RoL.sound (s:SS g w ow σ) {azz bs:List AV} (h:RoL σ azz bs):∀{vs:List Value},PVs g w azz vs→VL G.none w bs vs:=by
  induction h with
  | nil=>intro vs hv; cases hv; exact .nil
  | bare hb _ ih =>
    intro vs hv
    cases hv with
    | cons h1 h2=>exact VL.cons_of (VL.bare (h1.plain (AV.bare_common hb)) (by simp [AV.bare.go,hb])) (ih h2)
  | any _ ih =>
    intro vs hv
    cases hv with
    | cons h1 h2=>exact .undef _ (ih h2)
  | @list fl sz es azz bs hb _ ih =>
    intro vs hv
    cases hv with
    | @cons o a v as' vs' h1 h2 =>
      refine VL.cons_of ?_ (ih h2)
      have shared:V g w (.list .sh sz es) v→V G.none w (.list .sh sz es) v:=by
        intro hV
        cases hV with
        | list c1 c2 c3 c4 c5 c6 c7 c8 c9 _=>exact .list (.inl rfl) c2 c3 c4 c5 c6 c7 (c8.bare hb) (fun i v hi=>⟨(c9 i v hi).1,fun h=>h⟩) .nil
        | lnil c1 _=>exact .lnil c1 .nil
      cases fl with
      | sh=>exact shared h1
      | full=>exact shared (VL.full_sh h1)
      | own=>exact shared h1.1
      | uniq =>
        obtain ⟨a,cap,xs,u⟩:=h1
        rw [u.val]
        exact .list (.inl rfl) rfl u.le u.pos (.inr u.spot) u.elems u.low (u.vl.bare hb) (fun i v hi=>⟨u.cell i v hi,fun h=>h⟩) .nil
  | nilS hz _ ih =>
    intro vs hv
    cases hv with
    | cons h1 h2 =>
      obtain rfl:=(show V g w (.s .nilS) _ from h1).sc_inv
      exact .lnil hz (ih h2)
  | agg _ hc _ ih1 ih =>
    intro vs hv
    cases hv with
    | cons h1 h2 =>
      obtain ⟨xs,rfl,_,hV⟩:=(show V g w (.agg _) _ from h1).agg_inv
      exact .agg hc (ih1 (PVs.of hV)) (ih h2)
  | @ptr r off cs cs' azz bs hbox _ hc hu _ ih1 ih =>
    intro vs hv
    cases hv with
    | cons h1 h2 =>
      obtain ⟨b,rfl,hr⟩:=(show V g w (.ptr r off) _ from h1).ptr_inv
      obtain ⟨_,b',xs,E,fz,hr',hB⟩:=s.box hbox
      rw [hr] at hr'; injection hr' with hr'; subst hr'
      have hp:=hB.pvs off cs.length
      rw [List.take_of_length_le (by simp)] at hp
      exact .rop rfl hc hu (ih1 hp.1) (fun i v hi=>⟨hp.2 i v hi,fun h=>h⟩) (ih h2)
  | @row r off len cap sz cs es azz bs hbox hes hlen hsz hel hb hu _ ih =>
    intro vs hv
    cases hv with
    | cons h1 h2 =>
      obtain ⟨b,c,rfl,hr,k1,k2⟩:=(show V g w (.row r off len cap) _ from h1).row_inv
      obtain ⟨_,b',xs,E,fz,hr',hB⟩:=s.box hbox
      rw [hr] at hr'; injection hr' with hr'; subst hr'
      have hp:=hB.pvs off (len * sz)
      rw [←hes] at hp
      have hV:VL g w (es.flatMap AV.cells) (((xs.toList.take cs.length).drop off).take (len * sz)):=by
        have hcom:∀{l:List AV} {vs:List Value},AV.bare.go l=true→PVs g w l vs→VL g w l vs:=by
          intro l
          induction l with
          | nil=>intro vs _ h; cases h; exact .nil
          | cons x l ih =>
            intro vs hb h
            simp only [AV.bare.go,Bool.and_eq_true] at hb
            cases h with
            | cons c1 c2=>exact VL.cons_of (c1.plain (AV.bare_common hb.1)) (ih hb.2 c2)
        exact hcom hb hp.1
      exact .list (.inl rfl) hlen.symm (by omega) hsz (.inr rfl) hel hu (hV.bare hb) (fun i v hi=>⟨hp.2 i v hi,fun h=>h⟩) (ih h2)
  | fn _ _ _ ih1 ih2 ih =>
    intro vs hv
    cases hv with
    | cons h1 h2 =>
      obtain ⟨xs,ys,rfl,c1,c2⟩:=(show V g w (.fn _ _ _) _ from h1).fn_inv
      exact .fn (ih1 (PVs.of c1)) (ih2 (PVs.of c2)) (ih h2)
theorem SF.pvs {fr:Fr} {tm:Array Value} (s:SF g w ow fr tm):PVs g w fr tm.toList :=
  PVs.get (by simpa using s.size) fun i a hi=>by
    obtain ⟨v,h1,h2⟩:=s.val i a hi
    exact ⟨v,_,by simpa using h1,h2⟩
theorem Tr.none {g1:G} (t:Tr (May G.none Own.none) G.none w g1 w') (X:Nat→Nat→Prop):Tr Nought g w ⟨g.sb,g.hb,fun b o=>g.wr b o∨(X b o∧w.heap.size≤b)⟩ w' where
  size:=t.size
  obj b hb _:=t.obj b hb fun o h=>may_none h
  cell b o hb _:=t.cell b o hb fun h=>may_none h
  live:=t.live
  froz:=t.froz
  wr b o h:=h.imp id fun h=>h.2
  sb _ _ h:=h
  hb _ _ h:=h
  env:=t.env
theorem Ret.alone {args : List AV} {xs : Array Value} {v : AV} {s' : St} {rv : Value} {g1 : G} {ow1 : Own} (r : Rel g w ow args xs σ) (hr : Ret G.none w Own.none v s' rv g1 w' ow1) (hb : v.alone = true) :
    ∃g' ow',Ret g w ow v σ rv g' w' ow':=by
  obtain ⟨u,h1,h2⟩:=hr.rel.sf.val 0 v rfl
  simp at h1; subst h1
  have hnew:∀b o,g1.wr b o→w.heap.size≤b:=fun b o h=>(hr.way.tr.wr b o h).resolve_left fun h=>h
  have hown:∀b o,ow1 (.slot 0) b o→w.heap.size≤b:=fun b o h=>hnew b o (hr.rel.own.wr _ _ _ h)
  have hlt1:∀b o,ow1 (.slot 0) b o→b < w'.heap.size:=fun b o h=>hr.rel.ss.lt b o (hr.rel.own.wr _ _ _ h)
  let ow':Own:=fun p=>match p with | .slot i=>if i=0 then ow1 (.slot 0) else Nobody | p=>ow p
  have T:=Tr.none (g:=g) hr.way.tr (ow1 (.slot 0))
  have hp:PV ⟨g.sb,g.hb,fun b o=>g.wr b o∨(ow1 (.slot 0) b o∧w.heap.size≤b)⟩ w' (ow1 (.slot 0)) v rv:=by
    have bare:v.bare=true→PV ⟨g.sb,g.hb,fun b o=>g.wr b o∨(ow1 (.slot 0) b o∧w.heap.size≤b)⟩ w' (ow1 (.slot 0)) v rv:=fun hb =>
      PV.of (VL.bare (h2.plain (AV.bare_common hb)) (by simp [AV.bare.go,hb]))
    cases v with
    | list fl sz es =>
      cases fl with
      | uniq =>
        simp only [AV.alone,Bool.and_eq_true,Bool.not_eq_true',List.isEmpty_eq_false_iff] at hb
        obtain ⟨a,cap,xs,u⟩:=h2
        have hpos:0 < cap * sz:=Nat.mul_pos (Nat.lt_of_lt_of_le (List.length_pos_iff.2 hb.2) u.le) u.pos
        have hablk:w.heap.size≤a.block:=hown _ _ (u.spare 0 (Nat.le_refl _) hpos).1
        refine ⟨a,cap,xs,u.val,u.le,u.pos,u.spot,u.elems,u.low,u.vl.bare hb.1,u.cell,u.spare,u.off,u.lt,fun x hx => ?_,u.nf⟩
        rcases hx with hx | hx
        · have:=r.ss.lt _ _ hx; omega
        · exact hx.1
      | _=>exact bare hb
    | _=>exact bare hb
  have sub:∀p b o,ow' p b o→ow p b o∨(p = .slot 0∧ow1 (.slot 0) b o):=by
    intro p b o h
    cases p with
    | slot i =>
      by_cases hi:i=0
      · subst hi; exact .inr ⟨rfl,h⟩
      · exact absurd h (by simp [ow',hi,Nobody])
    | stk m j=>exact .inl h
    | heap m j=>exact .inl h
  refine ⟨_,ow',⟨r.ss.still T (fun b o h => ?_) rfl rfl (fun b o _ h => .inl h) (fun _ _ _ _ h=>h) (fun _ _ _ _ h=>h),⟨fun p b o h => ?_,fun p b o h hbox => ?_,fun p q b o hp hq => ?_⟩,⟨rfl,fun i y hi => ?_⟩⟩,⟨T.weaken fun _ _ h=>h.elim,fun b o h => ?_,fun b o h => .inr (.inl h),fun b h => .inl h⟩,rfl⟩
  · rcases h with h | h
    · exact Nat.lt_of_lt_of_le (r.ss.lt _ _ h) T.size
    · exact hlt1 _ _ h.1
  · rcases sub p b o h with h | ⟨_,h⟩
    · exact .inl (r.own.wr _ _ _ h)
    · exact .inr ⟨h,hown _ _ h⟩
  · have hbox':g.isBox b:=hbox
    rcases sub p b o h with h | ⟨_,h⟩
    · exact r.own.box _ _ _ h hbox'
    · have:=G.isBox_lt r.ss hbox'
      have:=hown _ _ h
      omega
  · rcases sub p b o hp with h | ⟨h0,h⟩ <;> rcases sub q b o hq with k | ⟨k0,k⟩
    · exact r.own.one _ _ _ _ h k
    · have:=r.ss.lt _ _ (r.own.wr _ _ _ h); have:=hown _ _ k; omega
    · have:=r.ss.lt _ _ (r.own.wr _ _ _ k); have:=hown _ _ h; omega
    · rw [h0,k0]
  · cases i with
    | zero=>simp at hi; subst hi; exact ⟨rv,rfl,hp⟩
    | succ i=>simp at hi
  · rcases h with ⟨h1,h2⟩ | ⟨p,h⟩
    · rcases h2 with h2 | h2
      · exact .inl (.inl ⟨h1,h2⟩)
      · exact .inr h2.2
    · rcases sub p b o h with h | ⟨_,h⟩
      · exact .inl (.inr ⟨p,h⟩)
      · exact .inr (hown _ _ h)
end
end Go.AM
