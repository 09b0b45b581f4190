import Derived.Test.YtlnclcpffepfaaaM4
set_option linter.unusedSimpArgs false
set_option linter.unusedVariables false
namespace Go.AM
open Go
section
variable {P:Program} {g g':G} {w w':World} {ow ow' ow1:Own} {σ σ':St} {fr fr':Fr} {tm:Array Value} {a:Act} {dst:Option Tmp}
theorem setObj_run {b:Nat} {xs xs':Array MapEntry} {c c':Nat} (h:w.heap[b]? = some (.map xs c)):(setObj b (.map xs' c')).run P w = .ok () { w with heap:=w.heap.setIfInBounds b (.map xs' c') }:=by
  simp [setObj,Sem.run,h]
theorem Rel.setMap (r : Rel g w ow fr tm σ) {h b : Nat} {es es' : List Entry} {c c' : Nat} {xs xs' : Array MapEntry} (hh : σ.heap[h]? = some (.map es c)) (hb : g.hb[h]? = some b) (hM : MapOK g w b es c xs) (hE : EntriesOK g w es' xs'.toList) :
    Rel g { w with heap:=w.heap.setIfInBounds b (.map xs' c') } ow fr tm (setMap σ h es' c')∧Tr (May g ow) g w g { w with heap:=w.heap.setIfInBounds b (.map xs' c') }:=by
  have hblt:b < w.heap.size:=(Array.getElem?_eq_some_iff.1 hM.obj).1
  have hisb:g.isBox b := .inr (List.mem_of_getElem? hb)
  have hnc:∀o,w.cell? ⟨b,o,none⟩=none:=fun o=>by simp [World.cell?,hM.obj]
  have hget:∀b',(w.heap.setIfInBounds b (.map xs' c'))[b']? = if b'=b then some (.map xs' c') else w.heap[b']? := fun b'=>by
    by_cases e:b'=b
    · subst e; rw [if_pos rfl,Array.getElem?_setIfInBounds_self_of_lt hblt]
    · rw [if_neg e,Array.getElem?_setIfInBounds_ne (Ne.symm e)]
  have t:Tr (fun b' o=>b'=b∧o=0) g w g { w with heap:=w.heap.setIfInBounds b (.map xs' c') }:={
    env := .r
    size:=by simp
    obj:=fun b' hb' hm=>by
      have e:b'≠b:=fun e=>hm 0 ⟨e,rfl⟩
      show (w.heap.setIfInBounds b (.map xs' c'))[b']? = _
      rw [hget,if_neg e]
    cell:=fun b' o _ _=>by
      by_cases e:b'=b
      · subst e
        rw [hnc]
        show World.cell? _ _=none
        unfold World.cell?
        show (match (w.heap.setIfInBounds b' (.map xs' c'))[b']? with | some (.cells c _ _)=>_ | _=>none)=none
        rw [hget,if_pos rfl]
      · unfold World.cell?
        show (match (w.heap.setIfInBounds b (.map xs' c'))[b']? with | some (.cells c _ _)=>_ | _=>none)=_
        rw [hget,if_neg e]; rfl
    live:=fun b' o v hv=>by
      have e:b'≠b:=fun e=>by subst e; rw [hnc] at hv; cases hv
      refine ⟨v,?_⟩
      unfold World.cell? at *
      show (match (w.heap.setIfInBounds b (.map xs' c'))[b']? with | some (.cells c _ _)=>_ | _=>none)=_
      rw [hget,if_neg e]; exact hv
    froz:=fun b' o _=>by
      by_cases e:b'=b
      · subst e
        unfold World.frozen?
        show (match (w.heap.setIfInBounds b' (.map xs' c'))[b']? with | some (.cells _ _ (lo,hi))=>_ | _=>false)=_
        rw [hget,if_pos rfl,hM.obj]
      · unfold World.frozen?
        show (match (w.heap.setIfInBounds b (.map xs' c'))[b']? with | some (.cells _ _ (lo,hi))=>_ | _=>false)=_
        rw [hget,if_neg e]; rfl
    wr:=fun _ _ h => .inl h
    sb:=fun _ _ h=>h
    hb:=fun _ _ h=>h }
  have hMw:∀b' o,(b'=b∧o=0)→b'=b∧g.wr b' o:=fun b' o h=>by obtain ⟨rfl,rfl⟩:=h; exact ⟨rfl,hM.wr⟩
  have L:=t.later fun b' o h=>(hMw b' o h).2
  obtain ⟨n1,n2,n3⟩:=nodup_ref r.ss.nodup
  refine ⟨⟨?_,r.own,r.sf.later t (fun b' o h=>(hMw b' o h).2) (fun i b' x h h'=>r.own.box _ _ _ h (h'.1▸hisb)) fun _ _ _ h=>h⟩,t.weaken fun b' o h => .inl ⟨(hMw _ _ h).1▸hisb,(hMw _ _ h).2⟩⟩
  have hl:h < σ.heap.length:=(List.getElem?_eq_some_iff.1 hh).1
  refine r.ss.replace r.own hisb t hMw (fun b' o h=>t.lt (r.ss.lt _ _ h)) rfl rfl (fun _ _ _ _ h=>h) rfl (by simp [AM.setMap]) ?_ ?_ ?_ ?_ ?_ (fun _ _=>rfl) ?_ (fun _ _ _ _ _ h=>h) (fun _ _ _ _ _ h=>h)
  · intro n cs _ hmb; exact (n3 _ _ _ hmb hb).elim
  · intro n cs hn hmb
    obtain rfl:=n2 _ _ _ hmb hb
    simp only [AM.setMap] at hn
    rw [List.getElem?_set_self hl] at hn; simp at hn
  · intro n es'' c'' hn hmb
    obtain rfl:=n2 _ _ _ hmb hb
    simp only [AM.setMap] at hn
    rw [List.getElem?_set_self hl] at hn
    simp at hn
    obtain ⟨rfl,rfl⟩:=hn
    refine ⟨xs',by show (w.heap.setIfInBounds b (.map xs' c'))[b]? = _; rw [hget,if_pos rfl],by simpa using hE.1,fun i e hi => ?_,hM.wr⟩
    obtain ⟨x,h1,h2⟩:=hE.2 i e hi
    exact ⟨x,by simpa using h1,h2.later L⟩
  · intro n l hn hmb
    obtain rfl:=n2 _ _ _ hmb hb
    simp only [AM.setMap] at hn
    rw [List.getElem?_set_self hl] at hn; simp at hn
  · intro n l hn hmb
    obtain rfl:=n2 _ _ _ hmb hb
    simp only [AM.setMap] at hn
    rw [List.getElem?_set_self hl] at hn; simp at hn
  · intro n hne
    have e:h≠n:=fun e=>hne (e▸hb)
    simp only [AM.setMap]; rw [List.getElem?_set_ne e]
theorem Out.setMap (r : Rel g w ow fr tm σ) {h b : Nat} {es es' : List Entry} {c c' : Nat} {xs xs' : Array MapEntry} {v : AV} {val : Value} (hh : σ.heap[h]? = some (.map es c)) (hb : g.hb[h]? = some b) (hM : MapOK g w b es c xs) (hE : EntriesOK g w es' xs'.toList)
    (hv:V g { w with heap:=w.heap.setIfInBounds b (.map xs' c') } v val):∃g' ow',Out g w ow dst v fr (AM.setMap σ h es' c') tm g' { w with heap:=w.heap.setIfInBounds b (.map xs' c') } ow' val:=by
  obtain ⟨r',t⟩:=r.setMap (c':=c') hh hb hM hE
  obtain ⟨ow',ho⟩:=Out.of (g:=g) (w:=w) (ow:=ow) (dst:=dst) r' (PV.of (o:=Nobody) hv) (Free.nobody _ _) t (fun p b o h => .inl (.own h)) (fun b o h=>h.elim) (fun b o h1 h2 => .inl (.inl ⟨h1,h2⟩)) (fun _ _ h => .inr h) (fun _ h => .inl h)
  exact ⟨g,ow',ho⟩
theorem update_out (r : Rel g w ow fr a.tmps σ) {t : TypeId} {m k v : AV} {mv kv vv : Value} (h : update P t m k v σ = some σ') (hm : V g w m mv) (hk : V g w k kv) (hv : V g w v vv) :
    ∃w',(Instr.mapUpdate t mv kv vv).run P w = .ok () w'∧∃g' ow',Out g w ow dst .undef fr σ' a.tmps g' w' ow' undef:=by
  unfold update at h
  split at h
  case h_2=>cases h
  rename_i kT eT ht
  split at h
  · cases h
  rename_i hmay
  simp only [Bool.or_eq_true,Bool.not_eq_true',not_or,Bool.not_eq_false] at hmay
  obtain ⟨hmay,hlow⟩:=hmay
  obtain ⟨kv',hk1,hk2⟩:=keyMay_run hmay
  obtain rfl:=toV_eq hk hk1
  have hkT:(P.underlying kT).isSome=true:=by
    have:=hmay
    unfold keyMay at this
    rw [hk1] at this
    simp only [Bool.and_eq_true] at this
    obtain ⟨u,hu⟩:=Option.isSome_iff_exists.1 this.1
    have:=val_run hu w
    cases hd:P.underlying kT with
    | some d=>rfl
    | none =>
      unfold Instr.checkKey at this
      simp [underlying,hd,stuck,Sem.run] at this
  split at h
  case h_2=>cases h
  rename_i n
  split at h
  · cases h
  rename_i es c hmo
  obtain ⟨hh,b,xs,hb,hM⟩:=r.ss.map hmo
  obtain ⟨b',rfl,hb'⟩:=hm.map_inv
  rw [hb] at hb'; injection hb' with hb'; subst hb'
  have hg:(getObj b).run P w = .ok (.map xs c) w:=by simp [getObj,Sem.run,hM.obj]
  split at h
  · rename_i j e hf
    obtain ⟨k1,k2⟩:=findKey_run (w:=w) hk1 hkT hM.entries hf
    have hj:=k2 j e rfl
    obtain ⟨x,hx1,hx2⟩:=hM.val j e hj
    simp only [Option.bind_some,Array.getElem?_toList,hx1,Option.map_some] at k1
    split at h
    case h_2=>cases h
    rename_i old new ho hn
    split at h
    case isFalse=>cases h
    rename_i hsame
    injection h with h; subst h
    rw [hk1] at hn; injection hn with hn; subst hn
    rw [hx2.plain] at ho; injection ho with ho; subst ho
    refine ⟨{ w with heap:=w.heap.setIfInBounds b (.map (xs.modify j fun e=>{ e with key:=kv,val:=vv }) c) },?_,Out.setMap r hh hb hM ?_ (.undef undef .nil)⟩
    · have hks:(Instr.keyThatStays x.key kv).run P w = .ok kv w:=by simp [Instr.keyThatStays,hsame]
      simp [Instr.mapUpdate,run_underlying ht,hg,hk2,k1,hx1,hks,setObj_run hM.obj]
    · refine ⟨by simp [hM.size],fun i e' hi => ?_⟩
      by_cases e1:i=j
      · subst e1
        have hl:i < es.length:=(List.getElem?_eq_some_iff.1 hj).1
        rw [List.getElem?_set_self hl] at hi
        injection hi with hi; subst hi
        exact ⟨{ x with key:=kv,val:=vv },by simp [Array.getElem?_modify,hx1],hk,hv,hx2.born,hlow,hk1⟩
      · rw [List.getElem?_set_ne (Ne.symm e1)] at hi
        obtain ⟨y,hy1,hy2⟩:=hM.val i e' hi
        exact ⟨y,by simp [Array.getElem?_modify,Ne.symm e1,hy1],hy2⟩
  · rename_i hf
    injection h with h; subst h
    obtain ⟨k1,_⟩:=findKey_run (w:=w) hk1 hkT hM.entries hf
    simp only [Option.bind_none] at k1
    refine ⟨{ w with heap:=w.heap.setIfInBounds b (.map (xs.push { key:=kv,val:=vv,born:=c }) (c + 1)) },?_,Out.setMap r hh hb hM ?_ (.undef undef .nil)⟩
    · simp [Instr.mapUpdate,run_underlying ht,hg,hk2,k1,setObj_run hM.obj]
    · refine ⟨by simp [hM.size],fun i e' hi => ?_⟩
      by_cases e1:i < es.length
      · rw [List.getElem?_append_left e1] at hi
        obtain ⟨y,hy1,hy2⟩:=hM.val i e' hi
        exact ⟨y,by rw [Array.getElem?_toList,Array.getElem?_push_lt (by rw [hM.size]; exact e1)]; rw [←hy1]; exact (Array.getElem?_eq_getElem _).symm,hy2⟩
      · have e2:i=es.length:=by have:=(List.getElem?_eq_some_iff.1 hi).1; simp at this; omega
        subst e2
        rw [List.getElem?_append_right (Nat.le_refl _)] at hi
        simp at hi; subst hi
        exact ⟨{ key:=kv,val:=vv,born:=c },by simp [←hM.size],hk,hv,rfl,hlow,hk1⟩
  · cases h
theorem delete_out (r : Rel g w ow fr a.tmps σ) {t ty : TypeId} {m k : AV} {mv kv : Value} (h : deleteA P t m k σ = some σ') (hm : V g w m mv) (hk : V g w k kv) :
    ∃w',(Builtin.delete_ #[t] ty #[mv,kv]).run P w = .ok (.tuple #[]) w'∧∃g' ow',Out g w ow dst (.tup []) fr σ' a.tmps g' w' ow' (.tuple #[]):=by
  unfold deleteA at h
  split at h
  case h_2=>cases h
  rename_i kT eT ht
  split at h
  · cases h
  rename_i hmay
  simp only [Bool.not_eq_true',Bool.not_eq_false] at hmay
  obtain ⟨kv',hk1,hk2⟩:=keyMay_run hmay
  obtain rfl:=toV_eq hk hk1
  have hkT:(P.underlying kT).isSome=true:=by
    have:=hmay
    unfold keyMay at this
    rw [hk1] at this
    simp only [Bool.and_eq_true] at this
    obtain ⟨u,hu⟩:=Option.isSome_iff_exists.1 this.1
    have:=val_run hu w
    cases hd:P.underlying kT with
    | some d=>rfl
    | none =>
      unfold Instr.checkKey at this
      simp [underlying,hd,stuck,Sem.run] at this
  split at h
  · injection h with h; subst h
    obtain rfl:=hm.sc_inv
    exact ⟨w,by simp [Builtin.delete_,run_underlying ht,Sc.toV,hk2],g,Out.pure r (.tup (xs := #[]) .nil .nil)⟩
  · rename_i n
    split at h
    · cases h
    rename_i es c hmo
    obtain ⟨hh,b,xs,hb,hM⟩:=r.ss.map hmo
    obtain ⟨b',rfl,hb'⟩:=hm.map_inv
    rw [hb] at hb'; injection hb' with hb'; subst hb'
    have hg:(getObj b).run P w = .ok (.map xs c) w:=by simp [getObj,Sem.run,hM.obj]
    split at h
    · rename_i j e hf
      injection h with h; subst h
      obtain ⟨k1,k2⟩:=findKey_run (w:=w) hk1 hkT hM.entries hf
      have hj:=k2 j e rfl
      obtain ⟨x,hx1,hx2⟩:=hM.val j e hj
      simp only [Option.bind_some,Array.getElem?_toList,hx1,Option.map_some] at k1
      refine ⟨{ w with heap:=w.heap.setIfInBounds b (.map (xs.eraseIdxIfInBounds j) c) },by simp [Builtin.delete_,run_underlying ht,hg,hk2,k1,setObj_run hM.obj],Out.setMap r hh hb hM ?_ (.tup (xs := #[]) .nil .nil)⟩
      have hlt:j < xs.size:=(Array.getElem?_eq_some_iff.1 hx1).1
      have hlt':j < es.length:=(List.getElem?_eq_some_iff.1 hj).1
      have htl:(xs.eraseIdxIfInBounds j).toList=xs.toList.eraseIdx j:=by simp [Array.eraseIdxIfInBounds,hlt]
      rw [htl]
      refine ⟨by rw [List.length_eraseIdx,List.length_eraseIdx]; simp [hM.size,hlt'],fun i e' hi => ?_⟩
      rw [List.getElem?_eraseIdx] at hi ⊢
      split at hi
      · rename_i hlt2
        obtain ⟨y,hy1,hy2⟩:=hM.val i e' hi
        exact ⟨y,by rw [if_pos hlt2]; simpa using hy1,hy2⟩
      · rename_i hlt2
        obtain ⟨y,hy1,hy2⟩:=hM.val (i + 1) e' hi
        exact ⟨y,by rw [if_neg hlt2]; simpa using hy1,hy2⟩
    · rename_i hf
      injection h with h; subst h
      obtain ⟨k1,_⟩:=findKey_run (w:=w) hk1 hkT hM.entries hf
      simp only [Option.bind_none] at k1
      exact ⟨{ w with heap:=w.heap.setIfInBounds b (.map xs c) },by simp [Builtin.delete_,run_underlying ht,hg,hk2,k1,setObj_run hM.obj],Out.setMap r hh hb hM hM.entries (.tup (xs := #[]) .nil .nil)⟩
    · cases h
  · cases h
theorem newMap_out (r:Rel g w ow fr tm σ):∃g' ow',Out g w ow dst (.map σ.heap.length) fr { σ with heap:=σ.heap ++ [.map [] 0] } tm g' (w.alloc (.map #[] 0)) ow' (.map (some w.heap.size)):=by
  have hnew:(w.alloc (.map #[] 0)).heap[w.heap.size]? = some (.map #[] 0):=by
    show (w.heap.push _)[w.heap.size]? = _
    simp
  have hlt:∀{b:Nat},g.isBox b→b≠w.heap.size:=fun hb e=>by have:=G.isBox_lt r.ss hb; omega
  have t:Tr Nought g w ⟨g.sb,g.hb ++ [w.heap.size],fun b o=>g.wr b o∨b=w.heap.size∧o=0⟩ (w.alloc (.map #[] 0)):=Tr.new (ob := .map #[] 0) rfl (X:=fun o=>o=0) (fun _ _ h=>h) (fun n b hn=>by rw [List.getElem?_append_left (List.getElem?_eq_some_iff.1 hn).1]; exact hn)
  have hib:∀b,(⟨g.sb,g.hb ++ [w.heap.size],fun b o=>g.wr b o∨b=w.heap.size∧o=0⟩:G).isBox b→g.isBox b∨b=w.heap.size:=fun b hb=>by
    rcases hb with hb | hb
    · exact .inl (.inl hb)
    · rcases List.mem_append.1 hb with hb | hb
      · exact .inl (.inr hb)
      · exact .inr (by simpa using hb)
  have hown:∀p b o,ow p b o→b < w.heap.size:=fun p b o h=>r.ss.lt _ _ (r.own.wr _ _ _ h)
  have s':SS ⟨g.sb,g.hb ++ [w.heap.size],fun b o=>g.wr b o∨b=w.heap.size∧o=0⟩ (w.alloc (.map #[] 0)) ow { σ with heap:=σ.heap ++ [.map [] 0] }:={
    slen:=r.ss.slen
    hlen:=by simp [r.ss.hlen]
    nodup:=by
      have h0:=r.ss.nodup
      have hn:w.heap.size∉g.sb ++ g.hb:=fun hm=>hlt (List.mem_append.1 hm) rfl
      show (g.sb ++ (g.hb ++ [w.heap.size])).Nodup
      rw [←List.append_assoc,(List.perm_append_singleton _ _).nodup_iff]
      exact List.nodup_cons.2 ⟨hn,h0⟩
    lt:=fun b o h=>by
      rcases h with h | h
      · exact t.lt (r.ss.lt _ _ h)
      · rw [h.1]; simp
    stk:=fun n c hn=>by
      obtain ⟨h0,b,xs,E,fz,h1,h2⟩:=r.ss.stk n c hn
      exact ⟨h0,b,xs,E,fz,h1,h2.still t (fun i b x h=>h) fun o h => .inl h⟩
    heap:=fun n c hn=>by
      by_cases e:n < σ.heap.length
      · rw [List.getElem?_append_left e] at hn
        obtain ⟨h0,b,xs,E,fz,h1,h2⟩:=r.ss.heap n c hn
        exact ⟨h0,b,xs,E,fz,t.hb _ _ h1,h2.still t (fun i b x h=>h) fun o h => .inl h⟩
      · have e':n=σ.heap.length:=by
          have:=(List.getElem?_eq_some_iff.1 hn).1
          simp at this; omega
        subst e'
        rw [List.getElem?_append_right (Nat.le_refl _)] at hn
        simp at hn
    maps:=fun n es c hn=>by
      by_cases e:n < σ.heap.length
      · rw [List.getElem?_append_left e] at hn
        obtain ⟨b,xs,h1,h2⟩:=r.ss.maps n es c hn
        exact ⟨b,xs,t.hb _ _ h1,h2.still t fun o h => .inl h⟩
      · have e':n=σ.heap.length:=by
          have:=(List.getElem?_eq_some_iff.1 hn).1
          simp at this; omega
        subst e'
        rw [List.getElem?_append_right (Nat.le_refl _)] at hn
        simp at hn
        obtain ⟨rfl,rfl⟩:=hn
        exact ⟨w.heap.size,#[],by simp [←r.ss.hlen],hnew,rfl,fun i e h=>by simp at h,.inr ⟨rfl,rfl⟩⟩
    loops:=fun n l hn=>by
      by_cases e:n < σ.heap.length
      · rw [List.getElem?_append_left e] at hn
        obtain ⟨b,q,h1,h2⟩:=r.ss.loops n l hn
        exact ⟨b,q,t.hb _ _ h1,h2.still t fun o h => .inl h⟩
      · have e':n=σ.heap.length:=by
          have:=(List.getElem?_eq_some_iff.1 hn).1
          simp at this; omega
        subst e'
        rw [List.getElem?_append_right (Nat.le_refl _)] at hn
        simp at hn
    iters:=fun n l hn=>by
      by_cases e:n < σ.heap.length
      · rw [List.getElem?_append_left e] at hn
        obtain ⟨b,q,h1,h2⟩:=r.ss.iters n l hn
        exact ⟨b,q,t.hb _ _ h1,h2.still t fun o h => .inl h⟩
      · have e':n=σ.heap.length:=by
          have:=(List.getElem?_eq_some_iff.1 hn).1
          simp at this; omega
        subst e'
        rw [List.getElem?_append_right (Nat.le_refl _)] at hn
        simp at hn
    dead:=fun n hn=>by
      by_cases e:n < σ.heap.length
      · rw [List.getElem?_append_left e] at hn
        obtain ⟨b,h1,h2⟩:=r.ss.dead n hn
        exact ⟨b,t.hb _ _ h1,t.lt h2⟩
      · have e':n=σ.heap.length:=by
          have:=(List.getElem?_eq_some_iff.1 hn).1
          simp at this; omega
        subst e'
        rw [List.getElem?_append_right (Nat.le_refl _)] at hn
        simp at hn }
  have o':OW ⟨g.sb,g.hb ++ [w.heap.size],fun b o=>g.wr b o∨b=w.heap.size∧o=0⟩ ow:=⟨fun p b o h => .inl (r.own.wr _ _ _ h),fun p b o h hb=>(hib b hb).elim (r.own.box _ _ _ h) fun e=>by have:=hown _ _ _ h; omega,r.own.one⟩
  have r':Rel ⟨g.sb,g.hb ++ [w.heap.size],fun b o=>g.wr b o∨b=w.heap.size∧o=0⟩ (w.alloc (.map #[] 0)) ow fr tm { σ with heap:=σ.heap ++ [.map [] 0] }:=⟨s',o',r.sf.later t (fun _ _ h=>h.elim) (fun _ _ _ _ h=>h) fun _ _ _ h=>h⟩
  obtain ⟨ow'',ho⟩:=Out.of (g:=g) (w:=w) (ow:=ow) (dst:=dst) (v := .map σ.heap.length) (val := .map (some w.heap.size)) r' (PV.of (o:=Nobody) (.map (by simp [←r.ss.hlen]) .nil)) (Free.nobody _ _) t.nought (fun p b o h => .inl (.own h)) (fun b o h=>h.elim) (fun b o hb hw=>by
    rcases hib b hb with hb | hb
    · rcases hw with hw | hw
      · exact .inl (.inl ⟨hb,hw⟩)
      · exact .inr (Nat.le_of_eq hw.1.symm)
    · exact .inr (Nat.le_of_eq hb.symm)) (fun _ _ h => .inr (.inl h)) (fun b hb=>(List.mem_append.1 hb).imp id fun h=>Nat.le_of_eq ((List.mem_singleton.1 h).symm))
  exact ⟨_,ow'',ho⟩
end
end Go.AM
namespace Go.AM
open Go
structure Way (g:G) (w:World) (ow:Own) (g':G) (w':World) (ow':Own):Prop where
  tr:Tr (May g ow) g w g' w'
  may:∀b o,May g' ow' b o→May g ow b o∨w.heap.size≤b
  keep:∀b o,g.wr b o→May g ow b o∨g'.wr b o
  hbn:∀b,b∈g'.hb→b∈g.hb∨w.heap.size≤b
section
variable {P:Program} {g g' g1 g2:G} {w w' w1 w2:World} {ow ow' ow1 ow2:Own} {σ σ':St} {fr fr':Fr} {tm:Array Value} {a:Act} {dst:Option Tmp}
theorem Way.refl (g:G) (w:World) (ow:Own):Way g w ow g w ow:=⟨Tr.refl _ _ _,fun _ _ h => .inl h,fun _ _ h => .inr h,fun _ h => .inl h⟩
theorem Way.trans (h:Way g w ow g1 w1 ow1) (h':Way g1 w1 ow1 g2 w2 ow2) (hlt:∀b o,g.wr b o→b < w.heap.size):Way g w ow g2 w2 ow2 where
  tr:=h.tr.trans h'.tr h.may
  may b o hm:=by
    rcases h'.may b o hm with h1 | h1
    · exact h.may b o h1
    · exact .inr (Nat.le_trans h.tr.size h1)
  keep b o hw:=by
    rcases h.keep b o hw with h1 | h1
    · exact .inl h1
    · rcases h'.keep b o h1 with h2 | h2
      · rcases h.may b o h2 with h3 | h3
        · exact .inl h3
        · have:=hlt b o hw; omega
      · exact .inr h2
  hbn b hb:=by
    rcases h'.hbn b hb with h1 | h1
    · exact h.hbn b h1
    · exact .inr (Nat.le_trans h.tr.size h1)
theorem Way.only (h:∀p b o,ow1 p b o→ow p b o):Way g w ow g w ow1 :=
  ⟨Tr.refl _ _ _,fun b o hm => .inl (hm.imp id fun ⟨p,hp⟩=>⟨p,h p b o hp⟩),fun _ _ h => .inr h,fun _ h => .inl h⟩
theorem Out.way {v:AV} {val:Value} (h:Out g w ow dst v fr' σ' tm g' w' ow' val):Way g w ow g' w' ow':=⟨h.tr,h.may,h.keep,h.hbn⟩
theorem Out.after {v:AV} {val:Value} (hw:Way g w ow g1 w1 ow1) (hlt:∀b o,g.wr b o→b < w.heap.size) (h:Out g1 w1 ow1 dst v fr' σ' tm g' w' ow' val):Out g w ow dst v fr' σ' tm g' w' ow' val :=
  let W:=hw.trans h.way hlt
  ⟨h.rel,W.tr,W.may,W.keep,W.hbn⟩
theorem settle_one (r:Rel g w ow fr a.tmps σ) (x:Operand):∃g1 ow1,Rel g1 w ow1 (taken false fr x).2 a.tmps σ∧Way g w ow g1 w ow1:=by
  obtain ⟨g1,ow1,h1,h2,h3,h4,h5,h6,h7,h8,h9⟩:=taken_false r x
  refine ⟨g1,ow1,h1,h3,fun b o hm => .inl ?_,fun b o hw => ?_,fun b hb => .inl (h9▸hb)⟩
  · rcases hm with ⟨k1,k2⟩ | ⟨p,hp⟩
    · exact .inl ⟨h6 b k1,h5 b o k2⟩
    · exact .inr ⟨p,h4 p b o hp⟩
  · rcases h7 b o hw with h | ⟨p,hp⟩
    · exact .inr h
    · exact .inl (.inr ⟨p,hp⟩)
theorem settle_way:∀(xs:List Operand) {g:G} {ow:Own} {fr:Fr},Rel g w ow fr a.tmps σ→∃g1 ow1,Rel g1 w ow1 (settle fr xs) a.tmps σ∧Way g w ow g1 w ow1
  | [],g,ow,fr,r=>⟨g,ow,r,Way.refl _ _ _⟩
  | x :: xs,g,ow,fr,r=>by
    obtain ⟨g1,ow1,r1,w1⟩:=settle_one r x
    obtain ⟨g2,ow2,r2,w2⟩:=settle_way xs r1
    exact ⟨g2,ow2,r2,w1.trans w2 r.ss.lt⟩
theorem ownOf_own {x:Operand} {b o:Nat} (h:ownOf ow x b o):∃p,ow p b o:=by
  cases x with
  | tmp t=>exact ⟨_,h⟩
  | _=>exact h.elim
theorem takenAll_rel : ∀ (xs : List Operand) {ow : Own} {fr : Fr}, Rel g w ow fr a.tmps σ →
    ∃(ow1:Own) (O:Nat→Nat→Nat→Prop),Rel g w ow1 (takenAll fr xs).2 a.tmps σ∧(takenAll fr xs).1.length=xs.length ∧
      (∀(i:Nat) (v:AV),(takenAll fr xs).1[i]? = some v→∃x,xs[i]? = some x∧PV g w (O i) v (a.eval x))∧(∀i,Free g ow1 (O i)) ∧
      (∀i j b o,O i b o→O j b o→i=j)∧(∀p b o,ow1 p b o→ow p b o)∧(∀i b o,O i b o→∃p,ow p b o)
  | [],ow,fr,r=>⟨ow,fun _=>Nobody,r,rfl,fun i v h=>by simp [takenAll] at h,fun _=>Free.nobody _ _,fun _ _ _ _ h=>h.elim,fun _ _ _ h=>h,fun _ _ _ h=>h.elim⟩
  | x :: xs,ow,fr,r=>by
    obtain ⟨ow1,r1,h1,f1,k1⟩:=taken_true r x
    obtain ⟨ow2,O,r2,hl,hv,f2,hd,k2,k3⟩:=takenAll_rel xs r1
    have e:takenAll fr (x :: xs)=((taken true fr x).1 :: (takenAll (taken true fr x).2 xs).1,(takenAll (taken true fr x).2 xs).2):=rfl
    rw [e]
    refine ⟨ow2,fun i=>match i with | 0=>ownOf ow x | i + 1=>O i,r2,by simp [hl],?_,?_,?_,fun p b o h=>k1 _ _ _ (k2 _ _ _ h),?_⟩
    · intro i v hi
      cases i with
      | zero=>simp at hi; subst hi; exact ⟨x,rfl,h1⟩
      | succ i=>obtain ⟨y,h3,h4⟩:=hv i v (by simpa using hi); exact ⟨y,by simpa using h3,h4⟩
    · intro i
      cases i with
      | zero=>exact ⟨f1.wr,f1.box,fun p b o h=>f1.apart p b o (k2 _ _ _ h)⟩
      | succ i=>exact f2 i
    · intro i j b o hi hj
      cases i with
      | zero =>
        cases j with
        | zero=>rfl
        | succ j=>obtain ⟨p,hp⟩:=k3 j b o hj; exact (f1.apart p b o hp hi).elim
      | succ i =>
        cases j with
        | zero=>obtain ⟨p,hp⟩:=k3 i b o hi; exact (f1.apart p b o hp hj).elim
        | succ j=>rw [hd i j b o hi hj]
    · intro i b o hi
      cases i with
      | zero=>exact ownOf_own hi
      | succ i=>obtain ⟨p,hp⟩:=k3 i b o hi; exact ⟨p,k1 _ _ _ hp⟩
structure Ret (g:G) (w:World) (ow:Own) (v:AV) (σ':St) (rv:Value) (g':G) (w':World) (ow':Own):Prop where
  rel:Rel g' w' ow' [v] #[rv] σ'
  way:Way g w ow g' w' ow'
  sb:g'.sb=g.sb
def Runs (P:Program) (s:Sem Next) (w:World) (R:Value→World→Prop):Prop :=
  (∃f args,s.run P w = .ok (.enter f args) w∧Calls P f args w fun e w'=>match e with | .returned v=>R v w' | _=>False) ∨
  (∃v w',s.run P w = .ok (.value v) w'∧R v w') ∨
  ∃l fn tmps assign body,s.run P w = .ok (.round l fn tmps assign body) w∧RoundIn Fence.wide 0 P l fn tmps assign body w fun e w'=>match e with | .returned v=>R v w' | _=>False
abbrev CallF:=Tgt→List AV→St→Option (AV×St)
def Tgt.sem (g:G) (xs:Array Value):Tgt→Option (Sem Next)
  | .fn h=>some (callFunc h xs)
  | .yield h=>(g.hb[h]?).map fun b=>Instr.yield b xs
def Sound (P:Program) (C:CallF):Prop :=
  ∀(t:Tgt) (args:List AV) (σ:St) (v:AV) (σ':St),C t args σ=some (v,σ')→∀(g:G) (w:World) (ow:Own) (xs:Array Value),Rel g w ow args xs σ→∀s,t.sem g xs=some s →
    Runs P s w fun rv w'=>∃g' ow',Ret g w ow v σ' rv g' w' ow'
def calleeOwn (ow1:Own) (O:Nat→Nat→Nat→Prop) (n:Nat):Own
  | .slot i=>if i < n then Nobody else O (i - n)
  | p=>ow1 p
theorem calleeOwn_slot {O:Nat→Nat→Nat→Prop} {n i b o:Nat} (h:calleeOwn ow1 O n (.slot i) b o):n≤i∧O (i - n) b o:=by
  simp only [calleeOwn] at h
  split at h
  · exact h.elim
  · exact ⟨by omega,h⟩
theorem callee_own {O:Nat→Nat→Nat→Prop} {n:Nat} (h:OW g ow1) (f:∀i,Free g ow1 (O i)) (hd:∀i j b o,O i b o→O j b o→i=j):OW g (calleeOwn ow1 O n):=by
  refine ⟨fun p b o hp => ?_,fun p b o hp => ?_,fun p q b o hp hq => ?_⟩
  · cases p with
    | slot i=>exact (f _).wr _ _ (calleeOwn_slot hp).2
    | _=>exact h.wr _ _ _ hp
  · cases p with
    | slot i=>exact (f _).box _ _ (calleeOwn_slot hp).2
    | _=>exact h.box _ _ _ hp
  · cases p with
    | slot i =>
      obtain ⟨h1,h2⟩:=calleeOwn_slot hp
      cases q with
      | slot j =>
        obtain ⟨h3,h4⟩:=calleeOwn_slot hq
        have:=hd _ _ _ _ h2 h4
        have:i=j:=by omega
        rw [this]
      | stk m j=>exact ((f _).apart (.stk m j) _ _ hq h2).elim
      | heap m j=>exact ((f _).apart (.heap m j) _ _ hq h2).elim
    | stk m i =>
      cases q with
      | slot j=>exact ((f _).apart (.stk m i) _ _ hp (calleeOwn_slot hq).2).elim
      | stk m' j=>exact h.one _ _ _ _ hp hq
      | heap m' j=>exact h.one _ _ _ _ hp hq
    | heap m i =>
      cases q with
      | slot j=>exact ((f _).apart (.heap m i) _ _ hp (calleeOwn_slot hq).2).elim
      | stk m' j=>exact h.one _ _ _ _ hp hq
      | heap m' j=>exact h.one _ _ _ _ hp hq
theorem callee_rel {O : Nat → Nat → Nat → Prop} {first caps vs : List AV} {fv cv vv : List Value} (r : Rel g w ow1 fr tm σ) (hf : VL g w first fv) (hc : VL g w caps cv) (hl : vv.length = vs.length)
    (hv:∀(i:Nat) (v:AV),vs[i]? = some v→∃x,vv[i]? = some x∧PV g w (O i) v x) (f:∀i,Free g ow1 (O i)) (hd:∀i j b o,O i b o→O j b o→i=j) :
    Rel g w (calleeOwn ow1 O first.length) (first ++ vs ++ caps) (fv ++ vv ++ cv).toArray σ where
  ss:=r.ss.own (fun _ _ _ _ h=>h) fun _ _ _ _ h=>h
  own:=callee_own r.own f hd
  sf:=by
    have h1:=hf.length
    have h2:=hc.length
    refine ⟨by simp [h1,h2,hl],fun i x hi => ?_⟩
    simp only [List.getElem?_toArray]
    by_cases c1:i < first.length
    · rw [List.append_assoc,List.getElem?_append_left c1] at hi
      obtain ⟨v,k1,k2⟩:=hf.get hi
      exact ⟨v,by rw [List.append_assoc,List.getElem?_append_left (by omega)]; exact k1,PV.of k2⟩
    · by_cases c2:i < first.length + vs.length
      · rw [List.append_assoc,List.getElem?_append_right (by omega),List.getElem?_append_left (by omega)] at hi
        obtain ⟨v,k1,k2⟩:=hv _ x hi
        refine ⟨v,by rw [List.append_assoc,List.getElem?_append_right (by omega),List.getElem?_append_left (by omega),h1]; exact k1,?_⟩
        simp only [calleeOwn,if_neg c1]; exact k2
      · rw [List.getElem?_append_right (by simp; omega)] at hi
        obtain ⟨v,k1,k2⟩:=hc.get hi
        refine ⟨v,by rw [List.getElem?_append_right (by simp; omega)]; simpa [h1,hl] using k1,PV.of k2⟩
theorem ret_out {O : Nat → Nat → Nat → Prop} {n : Nat} {v : AV} {rv : Value} (r : Rel g w ow1 fr tm σ) (f : ∀ i, Free g ow1 (O i)) (k1 : ∀ p b o, ow1 p b o → ow p b o) (k2 : ∀ i b o, O i b o → ∃ p, ow p b o)
    (h:Ret g w (calleeOwn ow1 O n) v σ' rv g' w' ow'):∃ow2,Out g w ow dst v fr σ' tm g' w' ow2 rv:=by
  have hmay:∀b o,May g (calleeOwn ow1 O n) b o→May g ow b o:=by
    intro b o hm
    rcases hm with hm | ⟨p,hp⟩
    · exact .inl hm
    · cases p with
      | slot i=>exact .inr (k2 _ _ _ (calleeOwn_slot hp).2)
      | stk m i=>exact .inr ⟨_,k1 (.stk m i) _ _ hp⟩
      | heap m i=>exact .inr ⟨_,k1 (.heap m i) _ _ hp⟩
  have hno:∀i b o,ow1 (.slot i) b o→¬May g (calleeOwn ow1 O n) b o:=by
    intro i b o hi hm
    rcases hm with ⟨hm,_⟩ | ⟨p,hp⟩
    · exact r.own.box _ _ _ hi hm
    · cases p with
      | slot j=>exact (f _).apart _ _ _ hi (calleeOwn_slot hp).2
      | stk m j=>exact Pl.noConfusion (r.own.one _ _ _ _ hi (show ow1 (.stk m j) b o from hp))
      | heap m j=>exact Pl.noConfusion (r.own.one _ _ _ _ hi (show ow1 (.heap m j) b o from hp))
  have hlt:∀i b o,ow1 (.slot i) b o→b < w.heap.size:=fun i b o hi=>r.ss.lt _ _ (r.own.wr _ _ _ hi)
  let ow2:Own:=fun p=>match p with | .slot i=>ow1 (.slot i) | p=>ow' p
  have hap:∀i p b o,ow1 (.slot i) b o→¬ow' p b o:=fun i p b o hi hp=>by
    rcases h.way.may b o (.inr ⟨p,hp⟩) with hm | hm
    · exact hno _ _ _ hi hm
    · have:=hlt _ _ _ hi; omega
  have r2:Rel g' w' ow2 fr tm σ':=by
    refine ⟨h.rel.ss.own (fun _ _ _ _ h=>h) fun _ _ _ _ h=>h,⟨fun p b o hp => ?_,fun p b o hp => ?_,fun p q b o hp hq => ?_⟩,?_⟩
    · cases p with
      | slot i=>exact (h.way.keep b o (r.own.wr _ _ _ hp)).resolve_left (hno _ _ _ hp)
      | stk m i=>exact h.rel.own.wr _ _ _ (show ow' _ b o from hp)
      | heap m i=>exact h.rel.own.wr _ _ _ (show ow' _ b o from hp)
    · cases p with
      | slot i =>
        intro hb
        rcases hb with hb | hb
        · rw [h.sb] at hb; exact r.own.box _ _ _ hp (.inl hb)
        · rcases h.way.hbn b hb with hb | hb
          · exact r.own.box _ _ _ hp (.inr hb)
          · have:=hlt _ _ _ hp; omega
      | stk m i=>exact h.rel.own.box _ _ _ (show ow' _ b o from hp)
      | heap m i=>exact h.rel.own.box _ _ _ (show ow' _ b o from hp)
    · cases p with
      | slot i =>
        cases q with
        | slot j=>exact r.own.one _ _ _ _ hp hq
        | stk m j=>exact (hap _ _ _ _ hp (show ow' (.stk m j) b o from hq)).elim
        | heap m j=>exact (hap _ _ _ _ hp (show ow' (.heap m j) b o from hq)).elim
      | stk m i =>
        cases q with
        | slot j=>exact (hap _ _ _ _ hq (show ow' (.stk m i) b o from hp)).elim
        | stk m' j=>exact h.rel.own.one _ _ _ _ (show ow' (.stk m i) b o from hp) (show ow' (.stk m' j) b o from hq)
        | heap m' j=>exact h.rel.own.one _ _ _ _ (show ow' (.stk m i) b o from hp) (show ow' (.heap m' j) b o from hq)
      | heap m i =>
        cases q with
        | slot j=>exact (hap _ _ _ _ hq (show ow' (.heap m i) b o from hp)).elim
        | stk m' j=>exact h.rel.own.one _ _ _ _ (show ow' (.heap m i) b o from hp) (show ow' (.stk m' j) b o from hq)
        | heap m' j=>exact h.rel.own.one _ _ _ _ (show ow' (.heap m i) b o from hp) (show ow' (.heap m' j) b o from hq)
    · refine ⟨r.sf.size,fun i x hi => ?_⟩
      obtain ⟨u,h1,h2⟩:=r.sf.val i x hi
      refine ⟨u,h1,(h2.later h.way.tr (fun b o hm => ?_) (hno i)).move fun _ _ h=>h⟩
      rcases hm with hm | ⟨p,hp⟩
      · exact hm.2
      · cases p with
        | slot j=>exact (f _).wr _ _ (calleeOwn_slot hp).2
        | stk m j=>exact r.own.wr (.stk m j) _ _ hp
        | heap m j=>exact r.own.wr (.heap m j) _ _ hp
  have hv:PV g' w' (ow' (.slot 0)) v rv:=by
    obtain ⟨u,h1,h2⟩:=h.rel.sf.val 0 v rfl
    simp at h1; subst h1; exact h2
  have hfree:Free g' ow2 (ow' (.slot 0)):=⟨h.rel.own.wr _,h.rel.own.box _,fun p b o hp hq=>by
    cases p with
    | slot i=>exact hap _ _ _ _ hp hq
    | stk m i=>exact Pl.noConfusion (h.rel.own.one _ _ _ _ hq (show ow' (.stk m i) b o from hp))
    | heap m i=>exact Pl.noConfusion (h.rel.own.one _ _ _ _ hq (show ow' (.heap m i) b o from hp))⟩
  have hm':∀b o,May g' ow' b o→May g ow b o∨w.heap.size≤b:=fun b o hm=>(h.way.may b o hm).imp (hmay b o) id
  refine Out.of r2 hv hfree (h.way.tr.weaken hmay) (fun p b o hp => ?_) (fun b o hp=>hm' b o (.inr ⟨_,hp⟩)) (fun b o h1 h2=>hm' b o (.inl ⟨h1,h2⟩)) (fun b o hw=>(h.way.keep b o hw).imp (hmay b o) id) h.way.hbn
  cases p with
  | slot i=>exact .inl (.inr ⟨_,k1 _ _ _ hp⟩)
  | stk m i=>exact hm' b o (.inr ⟨_,show ow' (.stk m i) b o from hp⟩)
  | heap m i=>exact hm' b o (.inr ⟨_,show ow' (.heap m i) b o from hp⟩)
end
end Go.AM
namespace Go.AM
open Go
section
variable {P:Program} {g g' g1 g2:G} {w w' w1 w2:World} {ow ow' ow1 ow2:Own} {σ σ':St} {fr fr':Fr} {tm:Array Value} {a:Act} {next:Act→World→Prop} {Q:Exit→Act→World→Prop}
theorem run_v {s:Sem Value} {val:Value} (h:s.run P w = .ok val w'):(do pure (Next.value (←s)):Sem Next).run P w = .ok (.value val) w':=by
  rw [Sem.run_bind,h]; rfl
theorem run_u {s:Sem Unit} (h:s.run P w = .ok () w'):(do s; pure Next.skip:Sem Next).run P w = .ok .skip w':=by
  rw [Sem.run_bind,h]; rfl
theorem map_some {α β:Type} {o:Option α} {f:α→β} {y:β} (h:o.map f=some y):∃x,o=some x∧f x=y:=by
  cases o with
  | none=>cases h
  | some x=>exact ⟨x,rfl,by simpa using h⟩
theorem wp_v {rd : Option Nat} {o : Oper} {v : AV} {val : Value} (hr : (execOp a.eval o).run P w = .ok (.value val) w') (ho : ∃ g' ow', Out g w ow o.dst v fr' σ' a.tmps g' w' ow' val)
    (hn:∀g' w' ow' val,Out g w ow o.dst v fr' σ' a.tmps g' w' ow' val→next (a.put o.dst val) w'):o.wpIn (FW rd) 0 P a w next Q:=by
  obtain ⟨g',ho⟩:=ho
  exact wp_value hr ho hn
theorem wp_s {rd : Option Nat} {o : Oper} {v : AV} (hr : (execOp a.eval o).run P w = .ok .skip w') (ho : ∃ g' ow', Out g w ow o.dst v fr' σ' a.tmps g' w' ow' undef)
    (hn:∀g' w' ow' val,Out g w ow o.dst v fr' σ' a.tmps g' w' ow' val→next (a.put o.dst val) w'):o.wpIn (FW rd) 0 P a w next Q:=by
  obtain ⟨g',ho⟩:=ho
  exact wp_skipped hr ho hn
theorem Out.pure' {dst:Option Tmp} {v:AV} {val:Value} (r:Rel g w ow fr tm σ) (hv:V g w v val):∃g' ow',Out g w ow dst v fr σ tm g' w ow' val:=⟨g,Out.pure r hv⟩
theorem taken_out {dst:Option Tmp} (r:Rel g w ow fr a.tmps σ) (tk:Bool) (x:Operand):∃g' ow',Out g w ow dst (taken tk fr x).1 (taken tk fr x).2 σ a.tmps g' w ow' (a.eval x):=by
  cases tk with
  | true =>
    obtain ⟨ow1,r1,h1,f1,k1⟩:=taken_true r x
    have hm:∀b o,ownOf ow x b o→May g ow b o:=fun b o h => .inr (ownOf_own h)
    exact ⟨g,Out.of r1 h1 f1 (Tr.refl _ _ _) (fun p b o h => .inl (.inr ⟨p,k1 _ _ _ h⟩)) (fun b o h => .inl (hm b o h)) (fun b o h1 h2 => .inl (.inl ⟨h1,h2⟩)) (fun _ _ h => .inr h) fun _ h => .inl h⟩
  | false =>
    obtain ⟨g1,ow1,r1,h1,h3,h4,h5,h6,h7,h8,h9⟩:=taken_false r x
    have W:Way g w ow g1 w ow1:=by
      refine ⟨h3,fun b o hm => .inl ?_,fun b o hw => ?_,fun b hb => .inl (h9▸hb)⟩
      · rcases hm with ⟨k1,k2⟩ | ⟨p,hp⟩
        · exact .inl ⟨h6 b k1,h5 b o k2⟩
        · exact .inr ⟨p,h4 p b o hp⟩
      · rcases h7 b o hw with h | ⟨p,hp⟩
        · exact .inr h
        · exact .inl (.inr ⟨p,hp⟩)
    obtain ⟨ow2,o2⟩:=Out.pure (dst:=dst) r1 h1
    exact ⟨g1,ow2,Out.after W r.ss.lt o2⟩
theorem opt_V (r:SF g w ow fr a.tmps) (x:Option Operand):(∀y,x.map (AM.seen fr)=some y→∃v,x.map a.eval=some v∧V g w y v)∧(x.map (AM.seen fr)=none→x.map a.eval=none):=by
  cases x with
  | none=>exact ⟨fun y h=>by simp at h,fun _=>rfl⟩
  | some x=>exact ⟨fun y h=>by simp at h; subst h; exact ⟨_,rfl,r.seen x⟩,fun h=>by simp at h⟩
theorem seen_VL (r:SF g w ow fr a.tmps):∀(l:List Operand),VL g w (l.map (AM.seen fr)) (l.map a.eval)
  | [] => .nil
  | x :: l=>VL.cons_of (r.seen x) (seen_VL r l)
theorem arr_one {α:Type} {xs:Array α} {x:α} (h:xs.toList=[x]):xs = #[x]:=by cases xs; simp_all
theorem arr_two {α:Type} {xs:Array α} {x y:α} (h:xs.toList=[x,y]):xs = #[x,y]:=by cases xs; simp_all
theorem parts_len (l:Array (Nat×Operand)) (fr:Fr) (a:Act):(l.toList.map fun (i,x)=>(i,AM.seen fr x)).length=(l.map fun (i,x)=>(i,a.eval x)).toList.length:=by simp
theorem delete_types {t:TypeId} {ts:List TypeId} {ty:TypeId} {args:Array Value}:Builtin.delete_ (t :: ts).toArray ty args=Builtin.delete_ #[t] ty args:=by
  simp [Builtin.delete_]
theorem map_one (f:Operand→Value) (x:Operand) : #[x].map f = #[f x]:=by simp
theorem map_two (f:Operand→Value) (x y:Operand) : #[x,y].map f = #[f x,f y]:=by simp
theorem runs_wp {rd:Option Nat} {o:Oper} {s:Sem Next} {R:Value→World→Prop} (he:execOp a.eval o=s) (h:Runs P s w R) (hn:∀v w',R v w'→next (a.put o.dst v) w'):o.wpIn (FW rd) 0 P a w next Q:=by
  refine ⟨fun f _=>FW_fn rd f,?_⟩
  rw [FW_round]
  rcases h with ⟨f,args,e1,e2⟩ | ⟨v,w',e1,e2⟩ | ⟨l,fn,tmps,azz,bd,e1,e2⟩
  · rw [semAt_of (he▸e1) (by simp)]
    refine ⟨FW_depth rd 0,FW_calls (Calls.mono e2 fun e w' he => ?_)⟩
    cases e with
    | returned v=>exact hn _ _ he
    | _=>exact he.elim
  · rw [semAt_of (he▸e1) (by simp)]
    exact hn _ _ e2
  · rw [semAt_of (he▸e1) (by simp)]
    refine ⟨FW_depth rd 0,?_⟩
    have h3:RoundIn (FW rd) (0 - 1) P l fn tmps azz bd w fun e w'=>match e with | .returned v=>R v w' | _=>False:=by
      cases rd with
      | none=>exact e2
      | some l'=>exact e2
    refine RoundIn.mono h3 fun e w' he => ?_
    cases e with
    | returned v=>exact hn _ _ he
    | _=>exact he.elim
theorem callV_wp {rd : Option Nat} {C : CallF} (hC : Sound P C) (r : Rel g w ow fr a.tmps σ) {dst : Option Tmp} {c : Call} {ty : TypeId} {pos : String} {after : Array Edge} {guard : Option (Nat × Bool)} {gf : Operand} {h : FuncId} {first captured : List AV} {v : AV}
    (hcal:c.callee = .value gf) (hg:AM.seen fr gf = .fn (.func h) first captured) (he:C (.fn h) (first ++ (takenAll fr c.args.toList).1 ++ captured) σ=some (v,σ'))
    (hn:∀g' w' ow' val,Out g w ow dst v (takenAll fr c.args.toList).2 σ' a.tmps g' w' ow' val→next (a.put dst val) w') :
    Oper.wpIn (FW rd) 0 P { dst,op := .call c,type:=ty,pos,after,guard } a w next Q:=by
  have hV:=r.sf.seen gf
  rw [hg] at hV
  generalize hgv:a.eval gf=gv at hV
  cases hV with
  | @fn _ _ _ xs ys _ _ h1 h2 _ =>
    obtain ⟨ow1,O,r1,hl,hv,f,hd,k1,k2⟩:=takenAll_rel c.args.toList r
    have rc:=callee_rel (vs:=(takenAll fr c.args.toList).1) (vv:=c.args.toList.map a.eval) r1 h1 h2 (by rw [List.length_map,hl]) (fun i x hi=>by
      obtain ⟨y,k3,k4⟩:=hv i x hi
      exact ⟨a.eval y,by rw [List.getElem?_map,k3]; rfl,k4⟩) f hd
    have hrun:=hC (.fn h) _ σ v σ' he g w _ _ rc _ rfl
    refine runs_wp ?_ hrun fun rv w' hR => ?_
    · obtain ⟨cal,args,ats⟩:=c
      dsimp only at hcal; subst hcal
      have e:(xs.toList ++ args.toList.map a.eval ++ ys.toList).toArray=xs ++ args.map a.eval ++ ys:=by
        apply Array.ext'; simp
      rw [e]
      simp only [execOp,resolve]
      rw [hgv]; rfl
    · obtain ⟨g',ow',hret⟩:=hR
      obtain ⟨ow2,ho⟩:=ret_out (dst:=dst) r1 f k1 k2 hret
      exact hn _ _ _ _ ho
theorem yield_wp {rd : Option Nat} {C : CallF} (hC : Sound P C) (r : Rel g w ow fr a.tmps σ) {dst : Option Tmp} {c : Call} {ty : TypeId} {pos : String} {after : Array Edge} {guard : Option (Nat × Bool)} {gf : Operand} {h : Nat} {v : AV}
    (hcal:c.callee = .value gf) (hg:AM.seen fr gf = .yield h) (he:C (.yield h) (takenAll fr c.args.toList).1 σ=some (v,σ'))
    (hn:∀g' w' ow' val,Out g w ow dst v (takenAll fr c.args.toList).2 σ' a.tmps g' w' ow' val→next (a.put dst val) w') :
    Oper.wpIn (FW rd) 0 P { dst,op := .call c,type:=ty,pos,after,guard } a w next Q:=by
  have hV:=r.sf.seen gf
  rw [hg] at hV
  generalize hgv:a.eval gf=gv at hV
  cases hV with
  | @yield _ b _ _ hb _ =>
    obtain ⟨ow1,O,r1,hl,hv,f,hd,k1,k2⟩:=takenAll_rel c.args.toList r
    have rc:=callee_rel (first:=[]) (caps:=[]) (fv:=[]) (cv:=[]) (vs:=(takenAll fr c.args.toList).1) (vv:=c.args.toList.map a.eval) r1 .nil .nil (by rw [List.length_map,hl]) (fun i x hi=>by
      obtain ⟨y,k3,k4⟩:=hv i x hi
      exact ⟨a.eval y,by rw [List.getElem?_map,k3]; rfl,k4⟩) f hd
    rw [List.nil_append,List.append_nil] at rc
    have hrun:=hC (.yield h) _ σ v σ' he g w _ _ rc _ (by simp only [Tgt.sem,hb]; rfl)
    refine runs_wp ?_ hrun fun rv w' hR => ?_
    · obtain ⟨cal,args,ats⟩:=c
      dsimp only at hcal; subst hcal
      have e:([] ++ args.toList.map a.eval ++ []).toArray=args.map a.eval:=by
        apply Array.ext'; simp
      rw [e]
      simp only [execOp,resolve]
      rw [hgv]
      show invoke (.fn (.yield b) #[]) (#[] ++ args.map a.eval)=_
      rw [Array.empty_append]
      rfl
    · obtain ⟨g',ow',hret⟩:=hR
      obtain ⟨ow2,ho⟩:=ret_out (dst:=dst) r1 f k1 k2 hret
      exact hn _ _ _ _ ho
theorem evOp_wp {rd : Option Nat} {C : CallF} (hC : Sound P C) {cfg : Cfg} {f : FuncId} {o : Oper} {v : AV} (r : Rel g w ow fr a.tmps σ) (h : evOp C P cfg f o fr σ = some (v, fr', σ'))
    (hn:∀g' w' ow' val,Out g w ow o.dst v fr' σ' a.tmps g' w' ow' val→next (a.put o.dst val) w'):o.wpIn (FW rd) 0 P a w next Q:=by
  obtain ⟨dst,op,ty,pos,after,guard⟩:=o
  have S:=r.sf.seen
  cases op with
  | move x =>
    simp only [evOp] at h
    split at h
    · exact wp_v rfl (thaw_out r h) hn
    · split at h
      · obtain ⟨⟨v',σ1⟩,h1,h2⟩:=map_some h
        simp only [Prod.mk.injEq] at h2; obtain ⟨rfl,rfl,rfl⟩:=h2
        exact wp_v rfl (freeze_out r h1 (S x)) hn
      · injection h with h; simp only [Prod.mk.injEq] at h; obtain ⟨rfl,rfl,rfl⟩:=h
        exact wp_v rfl (taken_out r _ x) hn
  | assign x =>
    simp only [evOp] at h
    split at h
    · obtain ⟨⟨v',σ1⟩,h1,h2⟩:=map_some h
      simp only [Prod.mk.injEq] at h2; obtain ⟨rfl,rfl,rfl⟩:=h2
      exact wp_v rfl (freeze_out r h1 (S x)) hn
    · injection h with h; simp only [Prod.mk.injEq] at h; obtain ⟨rfl,rfl,rfl⟩:=h
      exact wp_v rfl (taken_out r _ x) hn
  | pick c x y =>
    simp only [evOp] at h
    split at h
    case h_2=>cases h
    rename_i b hb
    injection h with h; simp only [Prod.mk.injEq] at h; obtain ⟨rfl,rfl,rfl⟩:=h
    have hc:=S c
    rw [hb] at hc
    generalize hcv:a.eval c=cv at hc
    cases hc with
    | sc _ _ =>
      refine wp_v (w':=w) (val:=if b then a.eval x else a.eval y) ?_ (Out.pure' r ?_) hn
      · simp only [execOp]; rw [hcv]; rfl
      · cases b
        · exact S y
        · exact S x
  | alloc t =>
    simp only [evOp] at h
    cases hz:zeroA P t with
    | none=>rw [hz] at h; cases h
    | some z =>
      rw [hz] at h
      obtain ⟨⟨rf,σ1⟩,h1,h2⟩:=map_some h
      simp only [Prod.mk.injEq] at h2; obtain ⟨rfl,rfl,rfl⟩:=h2
      obtain ⟨val,w',k1,k2⟩:=alloc_out (dst:=dst) r hz h1
      exact wp_v (run_v k1) k2 hn
  | box t x =>
    simp only [evOp] at h
    split at h
    · cases h
    · rename_i hf
      obtain ⟨⟨rf,σ1⟩,h1,h2⟩:=map_some h
      simp only [Prod.mk.injEq] at h2; obtain ⟨rfl,rfl,rfl⟩:=h2
      exact wp_v (run_v rfl) (box_out (t:=t) r (by simpa using hf) h1) hn
  | build t parts =>
    simp only [evOp] at h
    obtain ⟨v',h1,h2⟩:=map_some h
    simp only [Prod.mk.injEq] at h2; obtain ⟨rfl,rfl,rfl⟩:=h2
    obtain ⟨val,k1,k2⟩:=build_run (vparts:=parts.map fun (i,x)=>(i,a.eval x)) h1 (parts_len _ _ _) (fun j p q hp hq=>parts_V r.sf j p q hp (by simpa using hq))
    exact wp_v (run_v k1) (Out.pure' r k2) hn
  | buildSlice t n parts =>
    simp only [evOp] at h
    obtain ⟨v',h1,h2⟩:=map_some h
    simp only [Prod.mk.injEq] at h2; obtain ⟨rfl,rfl,rfl⟩:=h2
    obtain ⟨val,w',k1,k2⟩:=buildSlice_out (dst:=dst) (vparts:=parts.map fun (i,x)=>(i,a.eval x)) r h1 (parts_len _ _ _) (fun j p q hp hq=>parts_V r.sf j p q hp (by simpa using hq))
    exact wp_v (run_v k1) k2 hn
  | load t x =>
    simp only [evOp] at h
    obtain ⟨⟨v',σ1⟩,h1,h2⟩:=map_some h
    simp only [Prod.mk.injEq] at h2; obtain ⟨rfl,rfl,rfl⟩:=h2
    obtain ⟨val,k1,k2⟩:=load_out (dst:=dst) r h1
    exact wp_v (run_v k1) k2 hn
  | store t p x =>
    simp only [evOp] at h
    obtain ⟨σ1,h1,h2⟩:=map_some h
    simp only [Prod.mk.injEq] at h2; obtain ⟨rfl,rfl,rfl⟩:=h2
    by_cases hkeep:(cfg.keep f && oneT P t)=true
    · rw [if_pos hkeep] at h1
      obtain ⟨w',k1,k2⟩:=storeU_out (dst:=dst) r h1
      exact wp_s (run_u k1) k2 hn
    rw [if_neg hkeep] at h1
    have hf:(taken true fr x).1.fit=true:=by
      unfold AM.store at h1
      split at h1
      · split at h1
        · rename_i hc
          have:=hc.2.2
          revert this
          cases (taken true fr x).1 with
          | list fl _ _=>cases fl <;> simp [AV.calm,AV.fit]
          | _=>simp [AV.calm,AV.fit]
        · cases h1
      · cases h1
    obtain ⟨w',k1,k2⟩:=store_out (dst:=dst) r hf h1
    exact wp_s (run_u k1) k2 hn
  | nilCheck x =>
    simp only [evOp] at h
    have hx:=S x
    generalize hxv:a.eval x=xv at hx
    split at h <;> cases h
    all_goals
      rename_i hs
      rw [hs] at hx
      refine wp_v (w':=w) (val:=xv) ?_ (Out.pure' r hx) hn
      simp only [execOp]; rw [hxv]; cases hx <;> rfl
  | binOp op t x y yt =>
    simp only [evOp] at h
    obtain ⟨v',h1,h2⟩:=map_some h
    simp only [Prod.mk.injEq] at h2; obtain ⟨rfl,rfl,rfl⟩:=h2
    obtain ⟨val,k1,k2⟩:=binOp_run (o:=Nobody) (o':=Nobody) h1 (PV.of (S x)) (PV.of (S y))
    exact wp_v (run_v k1) (Out.pure' r k2) hn
  | unOp op t x =>
    simp only [evOp] at h
    obtain ⟨v',h1,h2⟩:=map_some h
    simp only [Prod.mk.injEq] at h2; obtain ⟨rfl,rfl,rfl⟩:=h2
    obtain ⟨val,k1,k2⟩:=unOp_run (o:=Nobody) h1 (PV.of (S x))
    exact wp_v (run_v k1) (Out.pure' r k2) hn
  | convert s d x =>
    simp only [evOp] at h
    obtain ⟨v',h1,h2⟩:=map_some h
    simp only [Prod.mk.injEq] at h2; obtain ⟨rfl,rfl,rfl⟩:=h2
    obtain ⟨val,w',k1,k2⟩:=convert_out (dst:=dst) r h1 (S x)
    exact wp_v (run_v k1) k2 hn
  | makeFunc fn first captured =>
    simp only [evOp] at h
    simp only [Option.map_some] at h
    injection h with h; simp only [Prod.mk.injEq] at h; obtain ⟨rfl,rfl,rfl⟩:=h
    refine wp_v (w':=w) (val := .func fn (first.map a.eval) (captured.map a.eval)) rfl (Out.pure' r (.fn ?_ ?_ .nil)) hn
    · rw [Array.toList_map]; exact seen_VL r.sf _
    · rw [Array.toList_map]; exact seen_VL r.sf _
  | makeMap t x =>
    simp only [evOp] at h
    split at h
    · injection h with h; simp only [Prod.mk.injEq] at h; obtain ⟨rfl,rfl,rfl⟩:=h
      exact wp_v (run_v rfl) (newMap_out r) hn
    · rename_i x
      split at h
      case h_2=>cases h
      rename_i hu hs
      injection h with h; simp only [Prod.mk.injEq] at h; obtain ⟨rfl,rfl,rfl⟩:=h
      have hx:=S x
      rw [hs] at hx
      generalize hxv:a.eval x=xv at hx
      cases hx with
      | sc _ _ =>
        refine wp_v (run_v ?_) (newMap_out r) hn
        simp [Option.map_some,hxv,Instr.makeMap,Sem.run_bind,run_underlying hu,Sc.toV,asInt]
        rfl
  | makeSlice t l c =>
    simp only [evOp] at h
    obtain ⟨⟨v',σ1⟩,h1,h2⟩:=map_some h
    simp only [Prod.mk.injEq] at h2; obtain ⟨rfl,rfl,rfl⟩:=h2
    obtain ⟨val,w',k1,k2⟩:=makeSlice_out (dst:=dst) r h1 (S l) (S c)
    exact wp_v (run_v k1) k2 hn
  | slice t x lo hi mx =>
    simp only [evOp] at h
    obtain ⟨v',h1,h2⟩:=map_some h
    simp only [Prod.mk.injEq] at h2; obtain ⟨rfl,rfl,rfl⟩:=h2
    obtain ⟨val,k1,k2⟩:=sliceOf_run h1 (S x) (opt_V r.sf lo).1 (opt_V r.sf lo).2 (opt_V r.sf hi).1 (opt_V r.sf hi).2 (opt_V r.sf mx).1 (opt_V r.sf mx).2
    exact wp_v (run_v k1) (Out.pure' r k2) hn
  | fieldAddr s x i =>
    simp only [evOp] at h
    obtain ⟨v',h1,h2⟩:=map_some h
    simp only [Prod.mk.injEq] at h2; obtain ⟨rfl,rfl,rfl⟩:=h2
    cases hf:fieldOf P s i with
    | none=>rw [hf] at h1; cases h1
    | some q =>
      rw [hf] at h1
      simp only [Option.bind_some] at h1
      split at h1
      · cases h1
      · rename_i h0
        obtain ⟨val,k1,k2⟩:=fieldAt_run hf h0 (S x) h1
        exact wp_v (run_v k1) (Out.pure' r k2) hn
  | field s x i =>
    simp only [evOp] at h
    obtain ⟨v',h1,h2⟩:=map_some h
    simp only [Prod.mk.injEq] at h2; obtain ⟨rfl,rfl,rfl⟩:=h2
    cases hf:fieldOf P s i with
    | none=>rw [hf] at h1; cases h1
    | some q =>
      rw [hf] at h1
      simp only [Option.bind_some] at h1
      split at h1
      · rename_i cs hs
        obtain ⟨val,k1,k2⟩:=field_run hf (hs▸S x) h1
        exact wp_v (run_v k1) (Out.pure' r k2) hn
      · cases h1
  | indexAddr t x ix =>
    simp only [evOp] at h
    obtain ⟨v',h1,h2⟩:=map_some h
    simp only [Prod.mk.injEq] at h2; obtain ⟨rfl,rfl,rfl⟩:=h2
    obtain ⟨val,k1,k2⟩:=indexAt_run h1 (S x) (S ix)
    exact wp_v (run_v k1) (Out.pure' r k2) hn
  | index t x ix =>
    simp only [evOp] at h
    obtain ⟨v',h1,h2⟩:=map_some h
    simp only [Prod.mk.injEq] at h2; obtain ⟨rfl,rfl,rfl⟩:=h2
    obtain ⟨val,k1,k2⟩:=index_run h1 (S x) (S ix)
    exact wp_v (run_v k1) (Out.pure' r k2) hn
  | lookup t x ix ok =>
    simp only [evOp] at h
    obtain ⟨v',h1,h2⟩:=map_some h
    simp only [Prod.mk.injEq] at h2; obtain ⟨rfl,rfl,rfl⟩:=h2
    obtain ⟨val,k1,k2⟩:=lookup_run r.ss h1 (S x) (S ix)
    exact wp_v (run_v k1) (Out.pure' r k2) hn
  | mapUpdate t m k x =>
    simp only [evOp] at h
    obtain ⟨σ1,h1,h2⟩:=map_some h
    simp only [Prod.mk.injEq] at h2; obtain ⟨rfl,rfl,rfl⟩:=h2
    obtain ⟨w',k1,k2⟩:=update_out (dst:=dst) r h1 (S m) (S k) (S x)
    exact wp_s (run_u k1) k2 hn
  | insert t m k x =>
    simp only [evOp] at h
    obtain ⟨σ1,h1,h2⟩:=map_some h
    simp only [Prod.mk.injEq] at h2; obtain ⟨rfl,rfl,rfl⟩:=h2
    obtain ⟨w',k1,k2⟩:=update_out (dst:=dst) r h1 (S m) (S k) (S x)
    exact wp_s (run_u k1) k2 hn
  | extract x i =>
    simp only [evOp] at h
    obtain ⟨v',h1,h2⟩:=map_some h
    simp only [Prod.mk.injEq] at h2; obtain ⟨rfl,rfl,rfl⟩:=h2
    split at h1
    · rename_i vs hs
      obtain ⟨val,k1,k2⟩:=extract_run (hs▸S x) h1
      exact wp_v (run_v k1) (Out.pure' r k2) hn
    · cases h1
  | call c =>
    simp only [evOp] at h
    split at h
    · -- len
      rename_i hcal
      obtain ⟨v',h1,h2⟩:=map_some h
      simp only [Prod.mk.injEq] at h2; obtain ⟨rfl,rfl,rfl⟩:=h2
      split at h1
      · rename_i t x ht hx
        obtain ⟨n,h3,rfl⟩:=map_some h1
        obtain ⟨cal,args,ats⟩:=c
        dsimp only at hcal ht hx; subst hcal
        rw [arr_one ht,arr_one hx] at hn ⊢
        have k1:=lenOf_run (ty:=ty) (o:=Nobody) r.ss h3 (PV.of (S x))
        rw [←map_one a.eval x] at k1
        exact wp_v (run_v k1) (Out.pure' r (.sc (.int .i64 n) .nil)) hn
      · cases h1
    · -- cap
      rename_i hcal
      obtain ⟨v',h1,h2⟩:=map_some h
      simp only [Prod.mk.injEq] at h2; obtain ⟨rfl,rfl,rfl⟩:=h2
      split at h1
      · rename_i t x ht hx
        obtain ⟨n,h3,rfl⟩:=map_some h1
        obtain ⟨cal,args,ats⟩:=c
        dsimp only at hcal ht hx; subst hcal
        rw [arr_one ht,arr_one hx] at hn ⊢
        have k1:=capOf_run (ty:=ty) (w:=w) (o:=Nobody) h3 (PV.of (S x))
        rw [←map_one a.eval x] at k1
        exact wp_v (run_v k1) (Out.pure' r (.sc (.int .i64 n) .nil)) hn
      · cases h1
    · -- append
      rename_i hcal
      split at h
      · rename_i t tx s x ht hx
        obtain ⟨⟨v',σ1⟩,h1,h2⟩:=map_some h
        simp only [Prod.mk.injEq] at h2; obtain ⟨rfl,rfl,rfl⟩:=h2
        obtain ⟨cal,args,ats⟩:=c
        dsimp only at hcal ht hx; subst hcal
        rw [arr_two ht,arr_two hx] at hn ⊢
        obtain ⟨val,w',k1,k2⟩:=append_out (dst:=dst) (ty:=ty) r h1
        rw [←map_two a.eval s x] at k1
        exact wp_v (run_v k1) k2 hn
      · cases h
    · -- copy
      rename_i hcal
      split at h
      · rename_i t tx s x ht hx
        obtain ⟨⟨v',σ1⟩,h1,h2⟩:=map_some h
        simp only [Prod.mk.injEq] at h2; obtain ⟨rfl,rfl,rfl⟩:=h2
        obtain ⟨cal,args,ats⟩:=c
        dsimp only at hcal ht hx; subst hcal
        rw [arr_two ht,arr_two hx] at hn ⊢
        obtain ⟨val,w',k1,k2⟩:=copy_out (dst:=dst) (ty:=ty) r h1 (S x) (S s)
        rw [←map_two a.eval s x] at k1
        exact wp_v (run_v k1) k2 hn
      · cases h
    · -- delete
      rename_i hcal
      split at h
      · rename_i t ts m k ht hx
        obtain ⟨σ1,h1,h2⟩:=map_some h
        simp only [Prod.mk.injEq] at h2; obtain ⟨rfl,rfl,rfl⟩:=h2
        obtain ⟨cal,args,ats⟩:=c
        dsimp only at hcal ht hx; subst hcal
        have e:ats=(t :: ts).toArray:=by cases ats; simp_all
        rw [e,arr_two hx] at hn ⊢
        obtain ⟨w',k1,k2⟩:=delete_out (dst:=dst) (ty:=ty) r h1 (S m) (S k)
        rw [←delete_types (ts:=ts),←map_two a.eval m k] at k1
        exact wp_v (run_v k1) k2 hn
      · cases h
    · -- clear
      rename_i hcal
      split at h
      · rename_i t x ht hx
        obtain ⟨σ1,h1,h2⟩:=map_some h
        simp only [Prod.mk.injEq] at h2; obtain ⟨rfl,rfl,rfl⟩:=h2
        obtain ⟨cal,args,ats⟩:=c
        dsimp only at hcal ht hx; subst hcal
        rw [arr_one ht,arr_one hx] at hn ⊢
        obtain ⟨w',k1,k2⟩:=clear_out (dst:=dst) (ty:=ty) r h1 (S x)
        rw [←map_one a.eval x] at k1
        exact wp_v (run_v k1) k2 hn
      · cases h
    · -- min
      rename_i hcal
      split at h
      · rename_i k x k' y hx
        split at h
        · rename_i hk
          subst hk
          injection h with h; simp only [Prod.mk.injEq] at h; obtain ⟨rfl,rfl,rfl⟩:=h
          obtain ⟨cal,args,ats⟩:=c
          dsimp only at hcal hx; subst hcal
          have hl:args.toList.length=2:=by have:=congrArg List.length hx; simpa using this
          match hargs:args.toList,hl with
          | [p,q],_ =>
            rw [hargs] at hx
            simp only [List.map_cons,List.map_nil,List.cons.injEq,and_true] at hx
            have hp:=S p
            have hq:=S q
            rw [hx.1] at hp; rw [hx.2] at hq
            generalize hpv:a.eval p=pv at hp
            generalize hqv:a.eval q=qv at hq
            cases hp with
            | sc _ _ =>
              cases hq with
              | sc _ _ =>
                rw [arr_two hargs] at hn ⊢
                refine wp_v (w':=w) (val := .int k (if y < x then y else x)) ?_ (Out.pure' r (.sc (.int k (if y < x then y else x)) .nil)) hn
                have:(Builtin.min_ ats ty (#[p,q].map a.eval)).run P w = .ok (.int k (if y < x then y else x)) w:=by rw [map_two,hpv,hqv]; rfl
                exact run_v this
        · cases h
      · cases h
    · -- max
      rename_i hcal
      split at h
      · rename_i k x k' y hx
        split at h
        · rename_i hk
          subst hk
          injection h with h; simp only [Prod.mk.injEq] at h; obtain ⟨rfl,rfl,rfl⟩:=h
          obtain ⟨cal,args,ats⟩:=c
          dsimp only at hcal hx; subst hcal
          have hl:args.toList.length=2:=by have:=congrArg List.length hx; simpa using this
          match hargs:args.toList,hl with
          | [p,q],_ =>
            rw [hargs] at hx
            simp only [List.map_cons,List.map_nil,List.cons.injEq,and_true] at hx
            have hp:=S p
            have hq:=S q
            rw [hx.1] at hp; rw [hx.2] at hq
            generalize hpv:a.eval p=pv at hp
            generalize hqv:a.eval q=qv at hq
            cases hp with
            | sc _ _ =>
              cases hq with
              | sc _ _ =>
                rw [arr_two hargs] at hn ⊢
                refine wp_v (w':=w) (val := .int k (if y > x then y else x)) ?_ (Out.pure' r (.sc (.int k (if y > x then y else x)) .nil)) hn
                have:(Builtin.max_ ats ty (#[p,q].map a.eval)).run P w = .ok (.int k (if y > x then y else x)) w:=by rw [map_two,hpv,hqv]; rfl
                exact run_v this
        · cases h
      · cases h
    · rename_i gf hcal
      split at h
      · rename_i hf first captured hs
        obtain ⟨⟨v',σ1⟩,h1,h2⟩:=map_some h
        simp only [Prod.mk.injEq] at h2; obtain ⟨rfl,rfl,rfl⟩:=h2
        exact callV_wp hC r hcal hs h1 hn
      · rename_i hf hs
        obtain ⟨⟨v',σ1⟩,h1,h2⟩:=map_some h
        simp only [Prod.mk.injEq] at h2; obtain ⟨rfl,rfl,rfl⟩:=h2
        exact yield_wp hC r hcal hs h1 hn
      · cases h
    · cases h
  | _=>simp only [evOp] at h; cases h
end
end Go.AM
namespace Go.AM
open Go
theorem beq_eq:∀{a b:AV},AV.beq a b=true→a=b
  | .s x,b,h=>by cases b <;> simp_all [AV.beq]
  | .undef,b,h=>by cases b <;> simp_all [AV.beq]
  | .agg l,b,h=>by
    cases b with
    | agg l'=>simp only [AV.beq] at h; rw [go h]
    | _=>simp [AV.beq] at h
  | .tup l,b,h=>by
    cases b with
    | tup l'=>simp only [AV.beq] at h; rw [go h]
    | _=>simp [AV.beq] at h
  | .list f n l,b,h=>by
    cases b with
    | list f' n' l'=>simp only [AV.beq,Bool.and_eq_true,decide_eq_true_eq] at h; rw [go h.2,h.1.1,h.1.2]
    | _=>simp [AV.beq] at h
  | .rop l,b,h=>by
    cases b with
    | rop l'=>simp only [AV.beq] at h; rw [go h]
    | _=>simp [AV.beq] at h
  | .ptr r o,b,h=>by cases b <;> simp_all [AV.beq]
  | .row r o l c,b,h=>by cases b <;> simp_all [AV.beq]
  | .map m,b,h=>by cases b <;> simp_all [AV.beq]
  | .yield m,b,h=>by cases b <;> simp_all [AV.beq]
  | .lenv m,b,h=>by cases b <;> simp_all [AV.beq]
  | .fn f l l',b,h=>by
    cases b with
    | fn f' m m'=>simp only [AV.beq,Bool.and_eq_true,decide_eq_true_eq] at h; rw [go h.1.2,go h.2,h.1.1]
    | _=>simp [AV.beq] at h
  where go:∀{a b:List AV},AV.beq.go a b=true→a=b
  | [],[],_=>rfl
  | [],_ :: _,h=>by simp [AV.beq.go] at h
  | _ :: _,[],h=>by simp [AV.beq.go] at h
  | x :: xs,y :: ys,h=>by
    simp only [AV.beq.go,Bool.and_eq_true] at h
    rw [beq_eq h.1,go h.2]
theorem beq_refl:∀(a:AV),AV.beq a a=true
  | .s x=>by simp [AV.beq]
  | .undef=>by simp [AV.beq]
  | .agg l=>by simp only [AV.beq]; exact go l
  | .tup l=>by simp only [AV.beq]; exact go l
  | .list f n l=>by simp only [AV.beq,go l]; simp
  | .rop l=>by simp only [AV.beq]; exact go l
  | .ptr r o=>by simp [AV.beq]
  | .row r o l c=>by simp [AV.beq]
  | .map m=>by simp [AV.beq]
  | .yield m=>by simp [AV.beq]
  | .lenv m=>by simp [AV.beq]
  | .fn f l l'=>by simp only [AV.beq,go l,go l']; simp
  where go:∀(a:List AV),AV.beq.go a a=true
  | []=>by simp [AV.beq.go]
  | x :: xs=>by simp only [AV.beq.go,beq_refl x,go xs]; rfl
section
variable {P:Program} {C:CallF} {cfg:Cfg} {f:FuncId} {fr fr' fr1:Fr} {σ σ':St} {ops:Array Oper} {d:Nat} {v:AV}
theorem getD_set (fr:Fr) (d t:Nat) (v:AV) (h:t≠d):(fr.set d v).getD t .undef=fr.getD t .undef:=by
  simp [List.getD,List.getElem?_set_ne (Ne.symm h)]
theorem opnd_set {x:Operand} (h:x≠.tmp d):opnd (fr.set d v) x=opnd fr x:=by
  cases x with
  | tmp t=>exact getD_set _ _ _ _ fun e=>h (by rw [e])
  | _=>rfl
theorem seen_set {x:Operand} (h:x≠.tmp d):AM.seen (fr.set d v) x=AM.seen fr x:=by unfold AM.seen; rw [opnd_set h]
theorem taken_set {x:Operand} (tk:Bool) (h:x≠.tmp d):taken tk (fr.set d v) x=((taken tk fr x).1,(taken tk fr x).2.set d v):=by
  cases x with
  | tmp t =>
    have hne:t≠d:=fun e=>h (by rw [e])
    unfold taken
    simp only [getD_set fr d t v hne]
    cases tk
    · simp only [Bool.false_eq_true,if_false]
      split
      · rw [List.set_comm _ _ (Ne.symm hne)]
      · rfl
    · simp only [if_true]
      rw [List.set_comm _ _ (Ne.symm hne)]
  | const c=>simp [taken,opnd]
  | global n=>simp [taken,opnd]
  | func g=>simp [taken,opnd]
theorem takenAll_set:∀{xs:List Operand} {fr:Fr},(∀x∈xs,x≠.tmp d)→takenAll (fr.set d v) xs=((takenAll fr xs).1,(takenAll fr xs).2.set d v)
  | [],fr,h=>rfl
  | x :: xs,fr,h=>by
    simp only [takenAll]
    rw [taken_set true (h x (by simp))]
    simp only
    rw [takenAll_set fun y hy=>h y (by simp [hy])]
theorem settle_set:∀{xs:List Operand} {fr:Fr},(∀x∈xs,x≠.tmp d)→settle (fr.set d v) xs=(settle fr xs).set d v
  | [],fr,h=>rfl
  | x :: xs,fr,h=>by
    simp only [settle]
    rw [taken_set false (h x (by simp))]
    simp only
    rw [settle_set fun y hy=>h y (by simp [hy])]
theorem thaw_set {x:Operand} (h:x≠.tmp d):thaw (fr.set d v) x σ=(thaw fr x σ).map fun r=>(r.1,r.2.1.set d v,r.2.2):=by
  cases x with
  | tmp t =>
    have hne:t≠d:=fun e=>h (by rw [e])
    unfold thaw
    simp only [getD_set fr d t v hne]
    split
    · split
      · rfl
      · cases newBox false _ σ with
        | none=>rfl
        | some r=>simp only [Option.map_some]; rw [List.set_comm _ _ (Ne.symm hne)]
    · rfl
    · rfl
  | _=>rfl
theorem settled_operands {op:Op} {x:Operand} (h:x∈settled op):x∈op.operands.toList:=by
  cases op <;> simp only [settled] at h <;> try (cases h; done)
  case build t ps=>simpa [Op.operands] using h
  case buildSlice t n ps=>simpa [Op.operands] using h
  case mapUpdate t m k v=>simp [Op.operands] at *; exact .inr (.inr h)
  case insert t m k v=>simp [Op.operands] at *; exact .inr (.inr h)
  case convert a b y=>simp [Op.operands] at *; simp [h]
  case slice t y lo hi mx=>simp [Op.operands] at *; simp [h]
  case indexAddr t y i=>simp [Op.operands] at *; simp [h]
  case call c =>
    split at h
    · have:=List.mem_of_mem_drop h
      simp only [Op.operands,Call.operands]
      simp_all
    · simp only [Op.operands,Call.operands]
      simp_all
    · simp only [Op.operands,Call.operands]
      simp_all
    · cases h
theorem evOp_set {o:Oper} (h:∀x∈o.op.operands.toList,x≠.tmp d):evOp C P cfg f o (fr.set d v) σ=(evOp C P cfg f o fr σ).map fun r=>(r.1,r.2.1.set d v,r.2.2):=by
  obtain ⟨dst,op,ty,pos,after,guard⟩:=o
  dsimp only at h
  have mapsome:∀{α:Type} (o:Option α) (g:α→AV×Fr×St) (g':α→AV×Fr×St),(∀a,g a=((g' a).1,(g' a).2.1.set d v,(g' a).2.2))→o.map g=(o.map g').map fun r=>(r.1,r.2.1.set d v,r.2.2):=by
    intro α o g g' hg
    cases o with
    | none=>rfl
    | some a=>simp [hg]
  have parts:∀(ps:Array (Nat×Operand)),(∀p∈ps.toList,p.2≠.tmp d)→(ps.toList.map fun (i,x)=>(i,AM.seen (fr.set d v) x))=ps.toList.map fun (i,x)=>(i,AM.seen fr x):=by
    intro ps hp
    exact List.map_congr_left fun p hm=>by
      obtain ⟨i,x⟩:=p
      simp only [seen_set (fr:=fr) (v:=v) (hp _ hm)]
  have many:∀(xs:List Operand),(∀x∈xs,x≠.tmp d)→xs.map (AM.seen (fr.set d v))=xs.map (AM.seen fr):=fun xs hx=>List.map_congr_left fun x hm=>seen_set (hx x hm)
  have optn:∀(x:Option Operand),(∀y,x=some y→y≠.tmp d)→x.map (AM.seen (fr.set d v))=x.map (AM.seen fr):=fun x hx=>by
    cases x with
    | none=>rfl
    | some y=>simp [seen_set (hx y rfl)]
  cases op with
  | move x =>
    have hx:=h x (by simp [Op.operands])
    simp only [evOp]
    split
    · exact thaw_set hx
    · split
      · rw [seen_set hx]; exact mapsome _ _ _ fun _=>rfl
      · rw [taken_set _ hx]; rfl
  | assign x =>
    have hx:=h x (by simp [Op.operands])
    simp only [evOp]
    split
    · rw [seen_set hx]; exact mapsome _ _ _ fun _=>rfl
    · rw [taken_set _ hx]; rfl
  | pick c x y =>
    simp only [evOp]
    rw [seen_set (h c (by simp [Op.operands])),seen_set (h x (by simp [Op.operands])),seen_set (h y (by simp [Op.operands]))]
    split <;> rfl
  | alloc t =>
    simp only [evOp]
    cases zeroA P t with
    | none=>rfl
    | some z=>exact mapsome _ _ _ fun _=>rfl
  | box t x =>
    have hx:=h x (by simp [Op.operands])
    simp only [evOp]
    rw [taken_set _ hx]
    dsimp only
    split
    · rfl
    · exact mapsome _ _ _ fun _=>rfl
  | build t ps =>
    simp only [evOp]
    rw [parts ps fun p hp=>h _ (by simp only [Op.operands,List.toList_toArray]; exact List.mem_map.2 ⟨p,hp,rfl⟩)]
    exact mapsome _ _ _ fun _=>rfl
  | buildSlice t n ps =>
    simp only [evOp]
    rw [parts ps fun p hp=>h _ (by simp only [Op.operands,List.toList_toArray]; exact List.mem_map.2 ⟨p,hp,rfl⟩)]
    exact mapsome _ _ _ fun _=>rfl
  | load t x =>
    simp only [evOp]
    rw [seen_set (h x (by simp [Op.operands]))]
    exact mapsome _ _ _ fun _=>rfl
  | store t p x =>
    have hx:=h x (by simp [Op.operands])
    have hp:=h p (by simp [Op.operands])
    simp only [evOp]
    rw [taken_set _ hx]
    dsimp only
    rw [seen_set hp]
    exact mapsome _ _ _ fun _=>rfl
  | nilCheck x =>
    simp only [evOp]
    rw [seen_set (h x (by simp [Op.operands]))]
    split <;> rfl
  | binOp op t x y yt =>
    simp only [evOp]
    rw [seen_set (h x (by simp [Op.operands])),seen_set (h y (by simp [Op.operands]))]
    exact mapsome _ _ _ fun _=>rfl
  | unOp op t x =>
    simp only [evOp]
    rw [seen_set (h x (by simp [Op.operands]))]
    exact mapsome _ _ _ fun _=>rfl
  | convert s t x =>
    simp only [evOp]
    rw [seen_set (h x (by simp [Op.operands]))]
    exact mapsome _ _ _ fun _=>rfl
  | makeFunc fn first captured =>
    simp only [evOp]
    rw [many first.toList fun x hx=>h x (by simp only [Op.operands,Array.toList_append]; exact List.mem_append_left _ hx),many captured.toList fun x hx=>h x (by simp only [Op.operands,Array.toList_append]; exact List.mem_append_right _ hx)]
    rfl
  | makeMap t x =>
    simp only [evOp]
    cases x with
    | none=>rfl
    | some x =>
      dsimp only
      rw [seen_set (h x (by simp [Op.operands]))]
      split <;> rfl
  | makeSlice t l c =>
    simp only [evOp]
    rw [seen_set (h l (by simp [Op.operands])),seen_set (h c (by simp [Op.operands]))]
    exact mapsome _ _ _ fun _=>rfl
  | slice t x lo hi mx =>
    simp only [evOp]
    rw [seen_set (h x (by simp [Op.operands])),optn lo fun y e=>h y (by simp [Op.operands,e]),optn hi fun y e=>h y (by simp [Op.operands,e]),optn mx fun y e=>h y (by simp [Op.operands,e])]
    exact mapsome _ _ _ fun _=>rfl
  | fieldAddr s x i =>
    simp only [evOp]
    rw [seen_set (h x (by simp [Op.operands]))]
    exact mapsome _ _ _ fun _=>rfl
  | field s x i =>
    simp only [evOp]
    rw [seen_set (h x (by simp [Op.operands]))]
    exact mapsome _ _ _ fun _=>rfl
  | indexAddr t x ix =>
    simp only [evOp]
    rw [seen_set (h x (by simp [Op.operands])),seen_set (h ix (by simp [Op.operands]))]
    exact mapsome _ _ _ fun _=>rfl
  | index t x ix =>
    simp only [evOp]
    rw [seen_set (h x (by simp [Op.operands])),seen_set (h ix (by simp [Op.operands]))]
    exact mapsome _ _ _ fun _=>rfl
  | lookup t x ix ok =>
    simp only [evOp]
    rw [seen_set (h x (by simp [Op.operands])),seen_set (h ix (by simp [Op.operands]))]
    exact mapsome _ _ _ fun _=>rfl
  | mapUpdate t m k x =>
    simp only [evOp]
    rw [seen_set (h m (by simp [Op.operands])),seen_set (h k (by simp [Op.operands])),seen_set (h x (by simp [Op.operands]))]
    exact mapsome _ _ _ fun _=>rfl
  | insert t m k x =>
    simp only [evOp]
    rw [seen_set (h m (by simp [Op.operands])),seen_set (h k (by simp [Op.operands])),seen_set (h x (by simp [Op.operands]))]
    exact mapsome _ _ _ fun _=>rfl
  | extract x i =>
    simp only [evOp]
    rw [seen_set (h x (by simp [Op.operands]))]
    exact mapsome _ _ _ fun _=>rfl
  | call c =>
    have hargs:∀x∈c.args.toList,x≠.tmp d:=fun x hx=>h x (by simp only [Op.operands,Call.operands,Array.toList_append]; exact List.mem_append_right _ hx)
    simp only [evOp]
    split
    · split
      · rename_i t x ht hx
        rw [seen_set (hargs x (by rw [hx]; simp))]
        exact mapsome _ _ _ fun _=>rfl
      · rfl
    · split
      · rename_i t x ht hx
        rw [seen_set (hargs x (by rw [hx]; simp))]
        exact mapsome _ _ _ fun _=>rfl
      · rfl
    · split
      · rename_i t tx s x ht hx
        rw [taken_set _ (hargs s (by rw [hx]; simp))]
        dsimp only
        rw [seen_set (hargs x (by rw [hx]; simp))]
        exact mapsome _ _ _ fun _=>rfl
      · rfl
    · split
      · rename_i t tx s x ht hx
        rw [seen_set (hargs s (by rw [hx]; simp)),seen_set (hargs x (by rw [hx]; simp))]
        exact mapsome _ _ _ fun _=>rfl
      · rfl
    · split
      · rename_i t tx s x ht hx
        rw [seen_set (hargs s (by rw [hx]; simp)),seen_set (hargs x (by rw [hx]; simp))]
        exact mapsome _ _ _ fun _=>rfl
      · rfl
    · split
      · rename_i t x ht hx
        rw [seen_set (hargs x (by rw [hx]; simp))]
        exact mapsome _ _ _ fun _=>rfl
      · rfl
    · rw [many _ hargs]
      split
      · split <;> rfl
      · rfl
    · rw [many _ hargs]
      split
      · split <;> rfl
      · rfl
    · rename_i gf hcal
      rw [seen_set (h gf (by simp only [Op.operands,Call.operands,hcal,Array.toList_append]; exact List.mem_append_left _ (by simp))),takenAll_set hargs]
      split
      · exact mapsome _ _ _ fun _=>rfl
      · exact mapsome _ _ _ fun _=>rfl
      · rfl
    · rfl
  | _=>rfl
end
end Go.AM
namespace Go.AM
open Go
def Calmer (fr fr':Fr):Prop:=fr'.length=fr.length∧∀t,(fr.getD t .undef).isUniq=false→(fr'.getD t .undef).isUniq=false∧(fr'.getD t .undef).look=(fr.getD t .undef).look
theorem Calmer.refl (fr:Fr):Calmer fr fr:=⟨rfl,fun _ h=>⟨h,rfl⟩⟩
theorem Calmer.trans {fr fr1 fr2:Fr} (h:Calmer fr fr1) (h':Calmer fr1 fr2):Calmer fr fr2 :=
  ⟨h'.1.trans h.1,fun t ht=>⟨(h'.2 t (h.2 t ht).1).1,(h'.2 t (h.2 t ht).1).2.trans (h.2 t ht).2⟩⟩
theorem calmer_set {fr:Fr} {t:Nat} {u:AV} (h:(fr.getD t .undef).isUniq=false→u.isUniq=false∧u.look=(fr.getD t .undef).look):Calmer fr (fr.set t u):=by
  refine ⟨by simp,fun s hs => ?_⟩
  by_cases e:s=t
  · subst e
    by_cases hl:s < fr.length
    · have:(fr.set s u).getD s .undef=u:=by simp [List.getD,hl]
      rw [this]; exact h hs
    · have:(fr.set s u).getD s .undef=fr.getD s .undef:=by simp [List.getD,hl]
      rw [this]; exact ⟨hs,rfl⟩
  · rw [getD_set _ _ _ _ e]; exact ⟨hs,rfl⟩
theorem left_calm {v:AV} (h:v.isUniq=false):v.left.isUniq=false∧v.left.look=v.look:=by
  cases v with
  | list fl _ _=>cases fl <;> simp_all [AV.left,AV.isUniq,AV.look]
  | _=>simp_all [AV.left,AV.isUniq,AV.look]
theorem taken_calmer (tk:Bool) (fr:Fr) (x:Operand):Calmer fr (taken tk fr x).2:=by
  cases x with
  | tmp t =>
    unfold taken
    cases tk
    · simp only [Bool.false_eq_true,if_false]
      split
      · rename_i h
        exact calmer_set fun hu=>by rw [h] at hu; simp [AV.isUniq] at hu
      · exact Calmer.refl _
    · simp only [if_true]
      exact calmer_set left_calm
  | _=>exact Calmer.refl _
theorem takenAll_calmer:∀(xs:List Operand) (fr:Fr),Calmer fr (takenAll fr xs).2
  | [],fr=>Calmer.refl _
  | x :: xs,fr=>(taken_calmer true fr x).trans (takenAll_calmer xs _)
theorem settle_calmer:∀(xs:List Operand) (fr:Fr),Calmer fr (settle fr xs)
  | [],fr=>Calmer.refl _
  | x :: xs,fr=>(taken_calmer false fr x).trans (settle_calmer xs _)
section
variable {P:Program} {C:CallF} {cfg:Cfg} {f:FuncId} {fr fr' fr1:Fr} {σ σ':St} {ops:Array Oper} {d:Nat} {v:AV}
theorem thaw_calmer {x:Operand} (h:thaw fr x σ=some (v,fr',σ')):Calmer fr fr':=by
  cases x with
  | tmp t =>
    unfold thaw at h
    dsimp only at h
    split at h
    · rename_i hu
      split at h
      · cases h
      · obtain ⟨r,_,h2⟩:=map_some h
        simp only [Prod.mk.injEq] at h2; obtain ⟨_,rfl,_⟩:=h2
        exact calmer_set fun h=>by rw [hu] at h; simp [AV.isUniq] at h
    · injection h with h; simp only [Prod.mk.injEq] at h; obtain ⟨_,rfl,_⟩:=h; exact Calmer.refl _
    · cases h
  | _=>cases h
theorem evOp_calmer {o:Oper} (h:evOp C P cfg f o fr σ=some (v,fr',σ')):Calmer fr fr':=by
  obtain ⟨dst,op,ty,pos,after,guard⟩:=o
  have one:∀{α:Type} {x:Option α} {g:α→AV×Fr×St},x.map g=some (v,fr',σ')→(∀a,(g a).2.1=fr)→Calmer fr fr':=by
    intro α x g hx hg
    obtain ⟨a,_,h2⟩:=map_some hx
    have:=hg a
    rw [h2] at this
    dsimp only at this; subst this; exact Calmer.refl _
  have two:∀{α:Type} {x:Option α} {g:α→AV×Fr×St} {fr1:Fr},Calmer fr fr1→x.map g=some (v,fr',σ')→(∀a,(g a).2.1=fr1)→Calmer fr fr':=by
    intro α x g fr1 hc hx hg
    obtain ⟨a,_,h2⟩:=map_some hx
    have:=hg a
    rw [h2] at this
    dsimp only at this; subst this; exact hc
  have same:∀{u:AV} {s:St},some (u,fr,s)=some (v,fr',σ')→Calmer fr fr':=by
    intro u s h; injection h with h; simp only [Prod.mk.injEq] at h; obtain ⟨_,rfl,_⟩:=h; exact Calmer.refl _
  have other:∀{u:AV} {s:St} {fr1:Fr},Calmer fr fr1→some (u,fr1,s)=some (v,fr',σ')→Calmer fr fr':=by
    intro u s fr1 hc h; injection h with h; simp only [Prod.mk.injEq] at h; obtain ⟨_,rfl,_⟩:=h; exact hc
  cases op with
  | move x =>
    simp only [evOp] at h
    split at h
    · exact thaw_calmer h
    · split at h
      · exact one h fun _=>rfl
      · exact other (taken_calmer _ _ _) h
  | assign x =>
    simp only [evOp] at h
    split at h
    · exact one h fun _=>rfl
    · exact other (taken_calmer _ _ _) h
  | pick c x y =>
    simp only [evOp] at h
    split at h
    · exact same h
    · cases h
  | alloc t =>
    simp only [evOp] at h
    cases hz:zeroA P t with
    | none=>rw [hz] at h; cases h
    | some z=>rw [hz] at h; exact one h fun _=>rfl
  | box t x =>
    simp only [evOp] at h
    split at h
    · cases h
    · exact two (taken_calmer _ _ _) h fun _=>rfl
  | store t p x =>
    simp only [evOp] at h
    exact two (taken_calmer _ _ _) h fun _=>rfl
  | nilCheck x =>
    simp only [evOp] at h
    split at h <;> first | exact same h | cases h
  | makeMap t x =>
    simp only [evOp] at h
    split at h
    · exact same h
    · split at h
      · exact same h
      · cases h
  | call c =>
    simp only [evOp] at h
    split at h
    · exact one h fun _=>rfl
    · exact one h fun _=>rfl
    · split at h
      · exact two (taken_calmer _ _ _) h fun _=>rfl
      · cases h
    · split at h
      · exact one h fun _=>rfl
      · cases h
    · split at h
      · exact one h fun _=>rfl
      · cases h
    · split at h
      · exact one h fun _=>rfl
      · cases h
    · split at h
      · split at h
        · exact same h
        · cases h
      · cases h
    · split at h
      · split at h
        · exact same h
        · cases h
      · cases h
    · split at h
      · exact two (takenAll_calmer _ _) h fun _=>rfl
      · exact two (takenAll_calmer _ _) h fun _=>rfl
      · cases h
    · cases h
  | build | buildSlice | load | binOp | unOp | convert | makeFunc | makeSlice | slice | fieldAddr | field | indexAddr | index | lookup | mapUpdate | insert | extract =>
    simp only [evOp] at h
    exact one h fun _=>rfl
  | _=>simp only [evOp] at h; cases h
theorem sh_look {v:AV} (h:v.isUniq=false):v.sh=v.look:=by
  cases v with
  | list fl _ _=>cases fl <;> simp_all [AV.sh,AV.isUniq,AV.look]
  | _=>simp_all [AV.sh,AV.look]
theorem taken_calm {x:Operand} (h:calmAt fr x=true):taken false fr x=(AM.seen fr x,fr):=by
  cases x with
  | tmp t =>
    have hu:(fr.getD t .undef).isUniq=false:=by simpa [calmAt] using h
    unfold taken AM.seen
    simp only [Bool.false_eq_true,if_false]
    split
    · rename_i e; rw [e] at hu; simp [AV.isUniq] at hu
    · rw [sh_look hu]; rfl
  | const c =>
    unfold taken AM.seen opnd
    simp only [AV.ofV]
    split <;> rfl
  | _=>rfl
theorem settle_calm:∀(xs:List Operand),(∀x∈xs,calmAt fr x=true)→settle fr xs=fr
  | [],_=>rfl
  | x :: xs,h=>by
    simp only [settle]
    rw [taken_calm (h x (by simp))]
    exact settle_calm xs fun y hy=>h y (by simp [hy])
theorem reader_eq {o : Oper} (hr : readerOp cfg f o = true) (hs : ∀ x ∈ o.op.operands.toList, AM.seen fr1 x = AM.seen fr x) (hc : ∀ x ∈ o.op.operands.toList, calmAt fr x = true) (hc1 : ∀ x ∈ o.op.operands.toList, calmAt fr1 x = true) :
    evOp C P cfg f o fr1 σ=(evOp C P cfg f o fr σ).map fun r=>(r.1,fr1,r.2.2):=by
  obtain ⟨dst,op,ty,pos,after,guard⟩:=o
  dsimp only at hs hc hc1
  have mapsome:∀{α:Type} (o:Option α) (g g':α→AV×Fr×St),(∀a,g a=((g' a).1,fr1,(g' a).2.2))→o.map g=(o.map g').map fun r=>(r.1,fr1,r.2.2):=by
    intro α o g g' hg
    cases o with
    | none=>rfl
    | some a=>simp [hg]
  have parts:∀(ps:Array (Nat×Operand)),(∀p∈ps.toList,AM.seen fr1 p.2=AM.seen fr p.2)→(ps.toList.map fun (i,x)=>(i,AM.seen fr1 x))=ps.toList.map fun (i,x)=>(i,AM.seen fr x):=by
    intro ps hp
    exact List.map_congr_left fun p hm=>by
      obtain ⟨i,x⟩:=p
      have:=hp _ hm
      dsimp only at this
      simp only [this]
  have many:∀(xs:List Operand),(∀x∈xs,AM.seen fr1 x=AM.seen fr x)→xs.map (AM.seen fr1)=xs.map (AM.seen fr):=fun xs hx=>List.map_congr_left fun x hm=>hx x hm
  have optn:∀(x:Option Operand),(∀y,x=some y→AM.seen fr1 y=AM.seen fr y)→x.map (AM.seen fr1)=x.map (AM.seen fr):=fun x hx=>by
    cases x with
    | none=>rfl
    | some y=>simp [hx y rfl]
  cases op with
  | move x =>
    simp only [readerOp,Bool.and_eq_true,Bool.not_eq_true'] at hr
    have hx:x∈(Op.move x).operands.toList:=by simp [Op.operands]
    simp only [evOp,hr.1.1,hr.1.2,hr.2,Bool.false_eq_true,if_false]
    rw [taken_calm (hc1 x hx),taken_calm (hc x hx),hs x hx]
    rfl
  | load t x =>
    simp only [evOp]
    rw [hs x (by simp [Op.operands])]
    exact mapsome _ _ _ fun _=>rfl
  | pick c x y =>
    simp only [evOp]
    rw [hs c (by simp [Op.operands]),hs x (by simp [Op.operands]),hs y (by simp [Op.operands])]
    split <;> rfl
  | nilCheck x =>
    simp only [evOp]
    rw [hs x (by simp [Op.operands])]
    split <;> rfl
  | binOp op t x y yt =>
    simp only [evOp]
    rw [hs x (by simp [Op.operands]),hs y (by simp [Op.operands])]
    exact mapsome _ _ _ fun _=>rfl
  | unOp op t x =>
    simp only [evOp]
    rw [hs x (by simp [Op.operands])]
    exact mapsome _ _ _ fun _=>rfl
  | convert s t x =>
    simp only [evOp]
    rw [hs x (by simp [Op.operands])]
    exact mapsome _ _ _ fun _=>rfl
  | fieldAddr s x i =>
    simp only [evOp]
    rw [hs x (by simp [Op.operands])]
    exact mapsome _ _ _ fun _=>rfl
  | field s x i =>
    simp only [evOp]
    rw [hs x (by simp [Op.operands])]
    exact mapsome _ _ _ fun _=>rfl
  | indexAddr t x ix =>
    simp only [evOp]
    rw [hs x (by simp [Op.operands]),hs ix (by simp [Op.operands])]
    exact mapsome _ _ _ fun _=>rfl
  | index t x ix =>
    simp only [evOp]
    rw [hs x (by simp [Op.operands]),hs ix (by simp [Op.operands])]
    exact mapsome _ _ _ fun _=>rfl
  | lookup t x ix ok =>
    simp only [evOp]
    rw [hs x (by simp [Op.operands]),hs ix (by simp [Op.operands])]
    exact mapsome _ _ _ fun _=>rfl
  | extract x i =>
    simp only [evOp]
    rw [hs x (by simp [Op.operands])]
    exact mapsome _ _ _ fun _=>rfl
  | slice t x lo hi mx =>
    simp only [evOp]
    rw [hs x (by simp [Op.operands]),optn lo fun y e=>hs y (by simp [Op.operands,e]),optn hi fun y e=>hs y (by simp [Op.operands,e]),optn mx fun y e=>hs y (by simp [Op.operands,e])]
    exact mapsome _ _ _ fun _=>rfl
  | makeFunc fn first captured =>
    simp only [evOp]
    rw [many first.toList fun x hx=>hs x (by simp only [Op.operands,Array.toList_append]; exact List.mem_append_left _ hx),many captured.toList fun x hx=>hs x (by simp only [Op.operands,Array.toList_append]; exact List.mem_append_right _ hx)]
    rfl
  | build t ps =>
    simp only [evOp]
    rw [parts ps fun p hp=>hs _ (by simp only [Op.operands,List.toList_toArray]; exact List.mem_map.2 ⟨p,hp,rfl⟩)]
    exact mapsome _ _ _ fun _=>rfl
  | buildSlice t n ps =>
    simp only [evOp]
    rw [parts ps fun p hp=>hs _ (by simp only [Op.operands,List.toList_toArray]; exact List.mem_map.2 ⟨p,hp,rfl⟩)]
    exact mapsome _ _ _ fun _=>rfl
  | call c =>
    have hargs:∀x∈c.args.toList,AM.seen fr1 x=AM.seen fr x:=fun x hx=>hs x (by simp only [Op.operands,Call.operands,Array.toList_append]; exact List.mem_append_right _ hx)
    simp only [readerOp] at hr
    split at hr
    · rename_i hcal
      simp only [evOp,hcal]
      split
      · rename_i t x ht hx
        rw [hargs x (by rw [hx]; simp)]
        exact mapsome _ _ _ fun _=>rfl
      · rfl
    · rename_i hcal
      simp only [evOp,hcal]
      split
      · rename_i t x ht hx
        rw [hargs x (by rw [hx]; simp)]
        exact mapsome _ _ _ fun _=>rfl
      · rfl
    · cases hr
  | _=>simp [readerOp] at hr
theorem load_state {t:TypeId} {p:AV} {s:St} (h:load P false t p σ=some (v,s)):s=σ:=by
  unfold load at h
  split at h
  · split at h
    · cases h
    · obtain ⟨_,_,h2⟩:=map_some h; simp only [Prod.mk.injEq] at h2; exact h2.2.symm
  · cases p with
    | ptr r off =>
      simp only at h
      cases hb:boxOf σ r with
      | none=>simp [hb] at h
      | some cs =>
        simp only [hb,Option.bind_some] at h
        split at h
        · simp only [Option.some.injEq,Prod.mk.injEq] at h; exact h.2.symm
        · cases h
    | rop cs =>
      cases cs with
      | nil=>simp at h
      | cons c cs=>simp only [Option.some.injEq,Prod.mk.injEq] at h; exact h.2.symm
    | _=>simp at h
  · cases h
theorem reader_state {o:Oper} (hr:readerOp cfg f o=true) (hc:∀x∈o.op.operands.toList,calmAt fr x=true) (h:evOp C P cfg f o fr σ=some (v,fr',σ')):fr'=fr∧σ'=σ:=by
  have e:=reader_eq (C:=C) (P:=P) (σ:=σ) hr (fun _ _=>rfl) hc hc
  rw [h] at e
  simp only [Option.map_some,Option.some.injEq,Prod.mk.injEq,true_and,and_true] at e
  refine ⟨e,?_⟩
  obtain ⟨dst,op,ty,pos,after,guard⟩:=o
  have one:∀{α:Type} {x:Option α} {g:α→AV×Fr×St},x.map g=some (v,fr',σ')→(∀a,(g a).2.2=σ)→σ'=σ:=by
    intro α x g hx hg
    obtain ⟨a,_,h2⟩:=map_some hx
    have:=hg a
    rw [h2] at this
    exact this
  cases op with
  | move x =>
    simp only [readerOp,Bool.and_eq_true,Bool.not_eq_true'] at hr
    simp only [evOp,hr.1.1,hr.1.2,hr.2,Bool.false_eq_true,if_false] at h
    simp only [Option.some.injEq,Prod.mk.injEq] at h
    exact h.2.2.symm
  | load t x =>
    simp only [readerOp,Bool.not_eq_true'] at hr
    simp only [evOp,hr] at h
    obtain ⟨⟨u,s⟩,h1,h2⟩:=map_some h
    simp only [Prod.mk.injEq] at h2
    rw [←h2.2.2]; exact load_state h1
  | pick c x y =>
    simp only [evOp] at h
    split at h
    · simp only [Option.some.injEq,Prod.mk.injEq] at h; exact h.2.2.symm
    · cases h
  | nilCheck x =>
    simp only [evOp] at h
    split at h <;> first | (simp only [Option.some.injEq,Prod.mk.injEq] at h; exact h.2.2.symm) | cases h
  | call c =>
    simp only [readerOp] at hr
    split at hr
    · rename_i hcal
      simp only [evOp,hcal] at h
      exact one h fun _=>rfl
    · rename_i hcal
      simp only [evOp,hcal] at h
      exact one h fun _=>rfl
    · cases hr
  | binOp | unOp | convert | fieldAddr | field | indexAddr | index | lookup | extract | slice | makeFunc | build | buildSlice =>
    simp only [evOp] at h
    exact one h fun _=>rfl
  | _=>simp [readerOp] at hr
theorem elems_free {e:TypeId} {x:AV} (s:St) (h:∀r o l c,x≠.row r o l c):elems P e x s=elems P e x σ:=by
  cases x with
  | row r o l c=>exact (h r o l c rfl).elim
  | s y=>cases y <;> rfl
  | _=>rfl
theorem nondep_eq {i : Nat} {o : Oper} (hi : ops[i]? = some o) (hr : readerOp cfg f o = true) (hd : depA ops i fr = false) (s : St) :
    (evOp C P cfg f o fr s).map (·.1)=(evOp C P cfg f o fr σ).map (·.1):=by
  obtain ⟨dst,op,ty,pos,after,guard⟩:=o
  have one:∀{α:Type} {x y:Option α} {g g':α→AV×Fr×St},x=y→(∀a,(g a).1=(g' a).1)→(x.map g).map (·.1)=(y.map g').map (·.1):=by
    intro α x y g g' e hg
    subst e
    cases x with
    | none=>rfl
    | some a=>simp [hg]
  simp only [depA,hi] at hd
  cases op with
  | move x =>
    simp only [readerOp,Bool.and_eq_true,Bool.not_eq_true'] at hr
    simp only [evOp,hr.1.1,hr.1.2,hr.2,Bool.false_eq_true,if_false]
    rfl
  | load t x =>
    simp only [readerOp,Bool.not_eq_true'] at hr
    dsimp only at hd
    split at hd
    case h_2=>cases hd
    rename_i cs hs
    simp only [evOp,hr,hs]
    simp only [load]
    split
    · split
      · rfl
      · simp only [readCells]
        split <;> rfl
    · cases cs <;> rfl
    · rfl
  | pick c x y =>
    simp only [evOp]
    split <;> rfl
  | nilCheck x =>
    simp only [evOp]
    split <;> rfl
  | convert a b x =>
    dsimp only at hd
    split at hd
    · cases hd
    · rename_i hs
      simp only [evOp]
      refine one ?_ fun _=>rfl
      simp only [convert]
      split <;> first | rfl | skip
      split
      · rw [elems_free (σ:=σ) s fun r o l c=>hs r o l c]
      · rfl
  | lookup t x ix ok=>simp at hd
  | call c =>
    simp only [readerOp] at hr
    split at hr
    · rename_i hcal
      simp only [evOp,hcal]
      refine one ?_ fun _=>rfl
      split
      · rename_i t x ht hx
        have ha:c.args[0]? = some x:=by rw [←Array.getElem?_toList,hx]; rfl
        simp only [ha] at hd
        split at hd
        · cases hd
        · rename_i hs
          congr 1
          unfold lenOf
          split <;> first | rfl | skip
          all_goals (rename_i h1 h2 h3; exact (hs _ ‹_›).elim)
      · rfl
    · rename_i hcal
      simp only [evOp,hcal]
      exact one rfl fun _=>rfl
    · cases hr
  | binOp | unOp | fieldAddr | field | indexAddr | index | extract | slice | makeFunc | build | buildSlice =>
    simp only [evOp]
    exact one rfl fun _=>rfl
  | _=>simp [readerOp] at hr
end
end Go.AM
