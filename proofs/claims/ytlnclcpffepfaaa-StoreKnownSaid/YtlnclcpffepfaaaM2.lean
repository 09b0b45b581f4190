import Derived.Test.YtlnclcpffepfaaaM1
import Derived.OrdersIn
import Derived.RangeFuncRecord
import Derived.RangeFuncIn
import Derived.RangeFuncLeaves
set_option linter.unusedSimpArgs false
set_option linter.unusedVariables false
namespace Go.AM
open Go
theorem setCell_heap_ne (w:World) (b o:Nat) (v:Value) {b':Nat} (h:b'≠b):(w.setCell ⟨b,o,none⟩ v).heap[b']? = w.heap[b']? := by
  simp [World.setCell,Array.getElem?_modify,Ne.symm h]
theorem setCell_heap (w : World) (b o : Nat) (v : Value) {xs : Array Value} {E : TypeId} {fz : Nat × Nat} (h : w.heap[b]? = some (.cells xs E fz)) :
    (w.setCell ⟨b,o,none⟩ v).heap[b]? = some (.cells (xs.setIfInBounds o v) E fz):=by
  simp [World.setCell,Array.getElem?_modify,h]
theorem setCell_size (w:World) (a:Addr) (v:Value):(w.setCell a v).heap.size=w.heap.size:=by simp [World.setCell]
theorem setCells_ne (b:Nat):∀(vs:List Value) (o:Nat) (w:World) {b':Nat},b'≠b→(w.setCells b o vs).heap[b']? = w.heap[b']?
  | [],_,_,_,_=>rfl
  | v :: r,o,w,b',h=>by rw [World.setCells,setCells_ne b r (o + 1) _ h,setCell_heap_ne w b o v h]
theorem setCells_size (b:Nat):∀(vs:List Value) (o:Nat) (w:World),(w.setCells b o vs).heap.size=w.heap.size
  | [],_,_=>rfl
  | v :: r,o,w=>by rw [World.setCells,setCells_size b r (o + 1),setCell_size]
theorem setCells_heap (b : Nat) : ∀ (vs : List Value) (o : Nat) (w : World) {xs : Array Value} {E : TypeId} {fz : Nat × Nat}, w.heap[b]? = some (.cells xs E fz) → o + vs.length ≤ xs.size →
    ∃xs',(w.setCells b o vs).heap[b]? = some (.cells xs' E fz)∧xs'.size=xs.size∧∀(i:Nat),xs'[i]? = if o≤i∧i < o + vs.length then vs[i - o]? else xs[i]?
  | [],o,w,xs,E,fz,h,_=>⟨xs,h,rfl,fun i=>by simp; intro h1 h2; omega⟩
  | v :: r,o,w,xs,E,fz,h,hl=>by
    simp only [List.length_cons] at hl
    obtain ⟨xs',h1,h2,h3⟩:=setCells_heap b r (o + 1) (w.setCell ⟨b,o,none⟩ v) (setCell_heap w b o v h) (by simp; omega)
    refine ⟨xs',h1,by simpa using h2,fun i => ?_⟩
    rw [h3 i]
    by_cases e:i=o
    · subst e
      rw [if_neg (by omega),if_pos (by simp),Nat.sub_self,Array.getElem?_setIfInBounds_self_of_lt (by omega)]; rfl
    · by_cases h4:o + 1≤i∧i < o + 1 + r.length
      · rw [if_pos h4,if_pos (by simp only [List.length_cons]; omega),show i - o=(i - (o + 1)) + 1 by omega,List.getElem?_cons_succ]
      · rw [if_neg h4,if_neg (by simp only [List.length_cons]; omega),Array.getElem?_setIfInBounds_ne (Ne.symm e)]
theorem setCells_env (b:Nat):∀(vs:List Value) (o:Nat) (w:World),SameEnv w (w.setCells b o vs)
  | [],o,w => .r
  | v :: vs,o,w=>by
    have:=setCells_env b vs (o + 1) (w.setCell ⟨b,o,none⟩ v)
    exact ⟨this.1,this.2.1,this.2.2⟩
theorem splice_get (cs:List AV) (off:Nat) (vs:List AV) (h:off + vs.length≤cs.length) (i:Nat):(splice cs off vs)[i]? = if off≤i∧i < off + vs.length then vs[i - off]? else cs[i]? := by
  have gen:(cs.take off ++ vs ++ cs.drop (off + vs.length))[i]? = if off≤i∧i < off + vs.length then vs[i - off]? else cs[i]? := by
    have ht:(cs.take off).length=off:=by rw [List.length_take]; omega
    rw [List.append_assoc]
    by_cases h1:i < off
    · rw [List.getElem?_append_left (by omega),if_neg (by omega),List.getElem?_take_of_lt h1]
    · rw [List.getElem?_append_right (by omega),ht]
      by_cases h2:i < off + vs.length
      · rw [if_pos (by omega),List.getElem?_append_left (by omega)]
      · rw [if_neg (by omega),List.getElem?_append_right (by omega),List.getElem?_drop]
        congr 1; omega
  unfold splice
  split
  · rename_i v
    simp only [List.length_singleton] at h ⊢
    by_cases e:i=off
    · subst e; rw [List.getElem?_set_self (by omega),if_pos (by omega)]; simp
    · rw [List.getElem?_set_ne (Ne.symm e),if_neg (by omega)]
  · exact gen
theorem splice_length (cs:List AV) (off:Nat) (vs:List AV) (h:off + vs.length≤cs.length):(splice cs off vs).length=cs.length:=by
  unfold splice
  split
  · simp
  · simp; omega
theorem under_splice {n:Nat} {cs vs:List AV} {off:Nat} (h:off + vs.length≤cs.length) (h1:AV.under.go n cs=true) (h2:AV.under.go n vs=true):AV.under.go n (splice cs off vs)=true:=by
  rw [under_mem] at *
  intro a ha
  obtain ⟨i,hi⟩:=List.getElem?_of_mem ha
  rw [splice_get _ _ _ h] at hi
  split at hi
  · exact h2 a (List.mem_of_getElem? hi)
  · exact h1 a (List.mem_of_getElem? hi)
section
variable {g g' g'':G} {w w' w'':World} {ow ow':Own} {M M':Nat→Nat→Prop} {σ σ':St} {fr:Fr} {tm:Array Value}
def CellsV (one:Prop) (g:G) (w:World) (ro:Nat→Nat→Prop) (cs:List AV) (vs:List Value):Prop :=
  vs.length=cs.length∧∀(i:Nat) (a:AV),cs[i]? = some a→∃v,vs[i]? = some v∧PV g w (if i=0 then ro else Nobody) a v∧(a.isCell=true∨(a.kept=true∧a.fit=true)∧one)
abbrev Cells (g:G) (w:World) (ro:Nat→Nat→Prop) (cs:List AV) (vs:List Value):Prop:=CellsV False g w ro cs vs
theorem CellsV.kept {one:Prop} {ro:Nat→Nat→Prop} {x:AV} {v:Value} (h:PV g w ro x v) (hc:x.kept=true) (hf:x.fit=true) (h1:one):CellsV one g w ro [x] [v]:=by
  refine ⟨rfl,fun i a hi => ?_⟩
  cases i with
  | zero=>simp at hi; subst hi; exact ⟨v,rfl,by simpa using h,.inr ⟨⟨hc,hf⟩,h1⟩⟩
  | succ i=>simp at hi
theorem Cells.any {one:Prop} {ro:Nat→Nat→Prop} {cs:List AV} {vs:List Value} (h:Cells g w ro cs vs):CellsV one g w ro cs vs :=
  ⟨h.1,fun i a hi=>by
    obtain ⟨v,h1,h2,h3⟩:=h.2 i a hi
    exact ⟨v,h1,h2,h3.imp id fun h=>h.2.elim⟩⟩
theorem Cells.one {ro:Nat→Nat→Prop} {x:AV} {v:Value} (h:PV g w ro x v) (hc:x.isCell=true):Cells g w ro [x] [v]:=by
  refine ⟨rfl,fun i a hi => ?_⟩
  cases i with
  | zero=>simp at hi; subst hi; exact ⟨v,rfl,by simpa using h,.inl hc⟩
  | succ i=>simp at hi
theorem Cells.of {ro:Nat→Nat→Prop} {cs:List AV} {vs:List Value} (h:VL g w cs vs) (hc:∀c∈cs,c.isCell=true):Cells g w ro cs vs :=
  ⟨h.length,fun i a hi=>by
    obtain ⟨v,h1,h2⟩:=h.get hi
    exact ⟨v,h1,PV.of h2,.inl (hc a (List.mem_of_getElem? hi))⟩⟩
theorem Tr.setCells {b off : Nat} {vs : List Value} (hc : ∀ j, j < vs.length → (w.cell? ⟨b, off + j, none⟩).isSome = true) (hf : ∀ j, j < vs.length → w.frozen? ⟨b, off + j, none⟩ = false) :
    Tr (fun b' o=>b'=b∧off≤o∧o < off + vs.length) g w g (w.setCells b off vs) where
  env:=setCells_env _ _ _ _
  size:=by rw [setCells_size]; exact Nat.le_refl _
  obj b' hb' hm:=by
    by_cases e:b'=b
    · subst e
      cases vs with
      | nil=>rfl
      | cons v r=>exact (hm off ⟨rfl,Nat.le_refl _,by simp⟩).elim
    · rw [setCells_ne _ _ _ _ e]
  cell b' o _ hm:=World.cell?_setCells_out b vs off w _ fun h1 _=>by
    dsimp only at h1
    by_cases h2:o < off
    · exact .inl h2
    · exact .inr (Nat.le_of_not_lt fun h3=>hm ⟨h1,Nat.le_of_not_lt h2,h3⟩)
  live b' o v hv:=by
    by_cases h:b'=b∧off≤o∧o < off + vs.length
    · obtain ⟨rfl,h1,h2⟩:=h
      have:=World.cell?_setCells_in b' vs off w hc (o - off) (by omega)
      rw [show off + (o - off)=o by omega] at this
      exact ⟨_,this⟩
    · refine ⟨v,?_⟩
      rw [World.cell?_setCells_out b vs off w _ fun h1 _ => ?_]
      · exact hv
      · dsimp only at h1
        by_cases h2:o < off
        · exact .inl h2
        · exact .inr (Nat.le_of_not_lt fun h3=>h ⟨h1,Nat.le_of_not_lt h2,h3⟩)
  froz b' o _:=World.frozen?_setCells b vs off w _
  wr _ _ h := .inl h
  sb _ _ h:=h
  hb _ _ h:=h
theorem BoxOK.cell {o:Nat→Nat→Nat→Prop} {b:Nat} {cs:List AV} {xs:Array Value} {E:TypeId} {fz:Nat×Nat} (h:BoxOK g w o b cs xs E fz) {i:Nat} (hi:i < cs.length):(w.cell? ⟨b,i,none⟩).isSome=true∧w.frozen? ⟨b,i,none⟩=false:=by
  have hx:i < xs.size:=Nat.lt_of_lt_of_le hi h.le
  refine ⟨by simp [World.cell?,h.obj,hx],?_⟩
  have:=(h.wr i hi).2
  simp only [World.frozen?,h.obj]
  simpa using this
theorem BoxOK.read {o:Nat→Nat→Nat→Prop} {b:Nat} {cs:List AV} {xs:Array Value} {E:TypeId} {fz:Nat×Nat} (h:BoxOK g w o b cs xs E fz) {i:Nat} {a:AV} (hi:cs[i]? = some a):∃v,w.cell? ⟨b,i,none⟩=some v∧PV g w (o i) a v∧(a.isCell=true∨a.kept=true∧cs.length=1):=by
  obtain ⟨v,h1,h2⟩:=h.val i a hi
  exact ⟨v,by simp [World.cell?,h.obj,h1],h2⟩
theorem Rel.writeV (r : Rel g w ow fr tm σ) {one : Prop} {rf : Ref} {off b : Nat} {vs : List AV} {vals : List Value} {ro : Nat → Nat → Prop} (h : writeCells σ rf off vs = some σ') (hb : g.ref rf = some b) (hv : CellsV one g w ro vs vals) (hone : one → ∀ cs, boxOf σ rf = some cs → cs.length = 1) (f : Free g ow ro) :
    (∀j,j < vals.length→(w.cell? ⟨b,off + j,none⟩).isSome=true)∧(∀j,j < vals.length→w.frozen? ⟨b,off + j,none⟩=false) ∧
    ∃ow',Rel g (w.setCells b off vals) ow' fr tm σ'∧Tr (May g ow) g w g (w.setCells b off vals)∧(∀p b o,ow' p b o→ow p b o∨ro b o)∧(∀i,ow' (.slot i)=ow (.slot i)):=by
  unfold writeCells at h
  cases hcs:boxOf σ rf with
  | none=>simp [hcs] at h
  | some cs =>
    simp only [hcs,Option.bind_some,Bool.and_eq_true,decide_eq_true_eq] at h
    split at h
    case isFalse=>cases h
    rename_i hcond
    obtain ⟨hle,hmay⟩:=hcond
    injection h with h; subst h
    obtain ⟨hu,b',xs,E,fz,hr,hbox⟩:=r.ss.box hcs
    rw [hb] at hr; injection hr with hr; subst hr
    have hvl:vals.length=vs.length:=hv.1
    have hc:∀j,j < vals.length→(w.cell? ⟨b,off + j,none⟩).isSome=true:=fun j hj=>(hbox.cell (by omega)).1
    have hf:∀j,j < vals.length→w.frozen? ⟨b,off + j,none⟩=false:=fun j hj=>(hbox.cell (by omega)).2
    have hisb:g.isBox b:=G.ref_isBox hb
    have t:=Tr.setCells (g:=g) hc hf
    have hMw:∀b' o,(b'=b∧off≤o∧o < off + vals.length)→b'=b∧g.wr b' o:=fun b' o h=>by
      obtain ⟨rfl,h1,h2⟩:=h
      exact ⟨rfl,(hbox.wr o (by omega)).1⟩
    have hMown:∀p b' o,ow p b' o→¬(b'=b∧off≤o∧o < off + vals.length):=fun p b' o ho h=>r.own.box _ _ _ ho (h.1▸hisb)
    by_cases hnil:vs=[]
    · subst hnil
      have hv0:vals=[]:=List.length_eq_zero_iff.1 (by simpa using hvl)
      subst hv0
      have he:setBox σ rf (splice cs off [])=σ:=by
        have h0:splice cs off []=cs:=by simp [splice]
        rw [h0]
        cases rf with
        | stk n =>
          simp only [boxOf] at hcs
          obtain ⟨hl,rfl⟩:=List.getElem?_eq_some_iff.1 hcs
          simp [setBox]
        | heap n =>
          simp only [boxOf] at hcs
          split at hcs
          · rename_i cs' hn
            injection hcs with hcs; subst hcs
            obtain ⟨hl,hn⟩:=List.getElem?_eq_some_iff.1 hn
            simp [setBox,←hn]
          · cases hcs
      rw [he]
      exact ⟨hc,hf,ow,r,Tr.refl _ _ _,fun _ _ _ h => .inl h,fun _=>rfl⟩
    refine ⟨hc,hf,ow.set (rf.pl off) ro,⟨?_,r.own.set f,?_⟩,?_,?_,?_⟩
    · obtain ⟨xs',h1,h2,h3⟩:=setCells_heap b vals off w hbox.obj (by have:=hbox.le; omega)
      refine r.ss.setBox (xs':=xs') (E':=E) (fz':=fz) r.own hcs hb t hMw (by rw [setCells_size]; exact r.ss.lt) rfl rfl (fun _ _ _ _ h=>h) (under_splice hle hu (by cases rf <;> exact hmay)) ⟨h1,by rw [splice_length _ _ _ hle,h2]; exact hbox.le,?_,?_⟩ ?_
      · intro i a hi
        rw [splice_get _ _ _ hle] at hi
        rw [h3 i,hvl]
        by_cases hin:off≤i∧i < off + vs.length
        · rw [if_pos hin] at hi ⊢
          obtain ⟨v,hv1,hv2,hv3⟩:=hv.2 _ _ hi
          refine ⟨v,hv1,?_,hv3.imp id fun h=>⟨h.1.1,by rw [splice_length _ _ _ hle]; exact hone h.2 _ hcs⟩⟩
          have hv2':=hv2.later t (fun b' o h=>(hMw b' o h).2) (fun b' o h hm=>by
            split at h
            · exact f.box _ _ h (hm.1▸hisb)
            · exact h)
          refine hv2'.move fun b' o h => ?_
          split at h
          · rename_i h0
            rw [show i=off by omega,Own.set_same]; exact h
          · exact h.elim
        · rw [if_neg hin] at hi ⊢
          obtain ⟨v,hv1,hv2,hv3⟩:=hbox.val i a hi
          refine ⟨v,hv1,?_,by rw [splice_length _ _ _ hle]; exact hv3⟩
          by_cases e:i=off
          · have:0 < vs.length:=List.length_pos_iff.2 hnil
            exact (hin (by omega)).elim
          · have hv2':=hv2.later t (fun b' o h=>(hMw b' o h).2) (fun b' o h hm=>hMown _ _ _ h hm)
            exact hv2'.move fun b' o h=>by rw [Own.set_other _ _ (by cases rf <;> simp [Ref.pl,e])]; exact h
      · intro i hi
        rw [splice_length _ _ _ hle] at hi
        exact hbox.wr i hi
      · intro p b' x hp _ h
        rw [Own.set_other _ _ (hp off)]; exact h
    · refine r.sf.later t (fun b' o h=>(hMw b' o h).2) (fun i b' o h=>hMown _ _ _ h) fun i b' o h => ?_
      rw [Own.set_other _ _ (by cases rf <;> simp [Ref.pl])]; exact h
    · exact t.weaken fun b' o h => .inl ⟨(hMw _ _ h).1▸hisb,(hMw _ _ h).2⟩
    · intro p b' o h
      by_cases e:p=rf.pl off
      · rw [e,Own.set_same] at h; exact .inr h
      · rw [Own.set_other _ _ e] at h; exact .inl h
    · intro i; exact Own.set_other _ _ (by cases rf <;> simp [Ref.pl])
theorem Rel.write (r : Rel g w ow fr tm σ) {rf : Ref} {off b : Nat} {vs : List AV} {vals : List Value} {ro : Nat → Nat → Prop} (h : writeCells σ rf off vs = some σ') (hb : g.ref rf = some b) (hv : Cells g w ro vs vals) (f : Free g ow ro) :
    (∀j,j < vals.length→(w.cell? ⟨b,off + j,none⟩).isSome=true)∧(∀j,j < vals.length→w.frozen? ⟨b,off + j,none⟩=false) ∧
    ∃ow',Rel g (w.setCells b off vals) ow' fr tm σ'∧Tr (May g ow) g w g (w.setCells b off vals)∧(∀p b o,ow' p b o→ow p b o∨ro b o)∧(∀i,ow' (.slot i)=ow (.slot i)):=r.writeV h hb hv (fun h=>h.elim) f
theorem Rel.newBox (r : Rel g w ow fr tm σ) {hp : Bool} {rf : Ref} {cs : List AV} {vals : Array Value} {E : TypeId} {ro : Nat → Nat → Prop} (h : AM.newBox hp cs σ = some (rf, σ')) (hv : Cells g w ro cs vals.toList) (f : Free g ow ro)
    (hw:w'.heap=w.heap.push (.cells vals E)) (henv:SameEnv w w':=by exact .r) :
    ∃g' ow',Rel g' w' ow' fr tm σ'∧g'.ref rf=some w.heap.size∧Tr Nought g w g' w'∧(∀p b o,ow' p b o→ow p b o∨ro b o)∧(∀i,ow' (.slot i)=ow (.slot i))∧(∀b,g'.isBox b→g.isBox b∨b=w.heap.size)∧(∀b o,g.wr b o→g'.wr b o)∧(∀b,b∈g'.hb→b∈g.hb∨b=w.heap.size):=by
  have hlt:∀{b:Nat},g.isBox b→b≠w.heap.size:=fun hb e=>by have:=G.isBox_lt r.ss hb; omega
  have hnew:w'.heap[w.heap.size]? = some (.cells vals E (0,0)):=by rw [hw]; simp
  have hcl:∀{p:Pl} {b o:Nat},ow p b o→∀{v:Value},w.cell? ⟨b,o,none⟩=some v→b≠w.heap.size:=fun _ _ hc e=>by have:=cell_lt hc; omega
  unfold AM.newBox at h
  cases hp with
  | false =>
    simp only [Bool.false_eq_true,if_false] at h
    split at h
    case isFalse=>cases h
    rename_i hu
    simp only [Option.some.injEq,Prod.mk.injEq] at h
    obtain ⟨rfl,rfl⟩:=h
    let g':G:=⟨g.sb ++ [w.heap.size],g.hb,fun b o=>g.wr b o∨b=w.heap.size∧o < cs.length⟩
    have t:Tr Nought g w g' w':=Tr.new hw (X:=fun o=>o < cs.length) (fun n b hn=>by rw [List.getElem?_append_left (List.getElem?_eq_some_iff.1 hn).1]; exact hn) (fun _ _ h=>h) henv
    have hib:∀b,g'.isBox b→g.isBox b∨b=w.heap.size:=fun b hb=>by
      rcases hb with hb | hb
      · rcases List.mem_append.1 hb with hb | hb
        · exact .inl (.inl hb)
        · exact .inr (by simpa using hb)
      · exact .inl (.inr hb)
    have hown:∀p b o,ow p b o→b < w.heap.size:=fun p b o h=>r.ss.lt _ _ (r.own.wr _ _ _ h)
    have hro:∀b o,ro b o→b < w.heap.size:=fun b o h=>r.ss.lt _ _ (f.wr _ _ h)
    have s':SS g' w' (ow.set (.stk σ.stk.length 0) ro) { σ with stk:=σ.stk ++ [cs] }:={
      slen:=by simp [g',r.ss.slen]
      hlen:=r.ss.hlen
      nodup:=by
        have h0:=r.ss.nodup
        have hn:w.heap.size∉g.sb ++ g.hb:=fun hm=>hlt (List.mem_append.1 hm) rfl
        show (g.sb ++ [w.heap.size] ++ g.hb).Nodup
        rw [List.append_assoc]
        exact (List.Perm.nodup_iff (List.perm_middle (l₁ := g.sb) (l₂ := g.hb) (a:=w.heap.size))).2 (List.nodup_cons.2 ⟨hn,h0⟩)
      lt:=fun b o h=>by
        rcases h with h | h
        · exact t.lt (r.ss.lt _ _ h)
        · rw [hw,h.1]; simp
      stk:=fun n c hn=>by
        by_cases e:n < σ.stk.length
        · rw [List.getElem?_append_left e] at hn
          obtain ⟨h0,b,xs,E,fz,h1,h2⟩:=r.ss.stk n c hn
          refine ⟨h0,b,xs,E,fz,t.sb _ _ h1,h2.still t (fun i b x h => ?_) fun o h => .inl h⟩
          rw [Own.set_other _ _ (by simp; omega)]; exact h
        · have e':n=σ.stk.length:=by
            have:=(List.getElem?_eq_some_iff.1 hn).1
            simp at this; omega
          subst e'
          rw [List.getElem?_append_right (Nat.le_refl _)] at hn
          simp at hn; subst hn
          refine ⟨hu,w.heap.size,vals,E,(0,0),by simp [g',←r.ss.slen],hnew,?_,fun i a hi => ?_,fun i hi=>⟨.inr ⟨rfl,hi⟩,by simp⟩⟩
          · rw [←hv.1]; simp
          · obtain ⟨v,h1,h2,h3⟩:=hv.2 i a hi
            refine ⟨v,by simpa using h1,(h2.later t (fun _ _ h=>h.elim) (fun _ _ _ h=>h)).move fun b x h => ?_,h3.imp id fun h=>h.2.elim⟩
            split at h
            · rename_i h0; subst h0; rw [Own.set_same]; exact h
            · exact h.elim
      heap:=fun n c hn=>by
        obtain ⟨h0,b,xs,E,fz,h1,h2⟩:=r.ss.heap n c hn
        refine ⟨h0,b,xs,E,fz,h1,h2.still t (fun i b x h => ?_) fun o h => .inl h⟩
        rw [Own.set_other _ _ (by simp)]; exact h
      maps:=fun n es c hn=>by
        obtain ⟨b,xs,h1,h2⟩:=r.ss.maps n es c hn
        exact ⟨b,xs,h1,h2.still t fun o h => .inl h⟩
      loops:=fun n l hn=>by
        obtain ⟨b,q,h1,h2⟩:=r.ss.loops n l hn
        exact ⟨b,q,h1,h2.still t fun o h => .inl h⟩
      iters:=fun n l hn=>by
        obtain ⟨b,q,h1,h2⟩:=r.ss.iters n l hn
        exact ⟨b,q,h1,h2.still t fun o h => .inl h⟩
      dead:=fun n hn=>by
        obtain ⟨b,h1,h2⟩:=r.ss.dead n hn
        exact ⟨b,h1,t.lt h2⟩ }
    refine ⟨g',ow.set (.stk σ.stk.length 0) ro,⟨s',?_,?_⟩,by simp [G.ref,g',←r.ss.slen],t,?_,fun i=>Own.set_other _ _ (by simp),hib,fun _ _ h => .inl h,fun _ h => .inl h⟩
    · have f':Free g' ow ro:=⟨fun b o h => .inl (f.wr _ _ h),fun b o h hb=>(hib b hb).elim (f.box _ _ h) fun e=>by have:=hro _ _ h; omega,f.apart⟩
      have o':OW g' ow:=⟨fun p b o h => .inl (r.own.wr _ _ _ h),fun p b o h hb=>(hib b hb).elim (r.own.box _ _ _ h) fun e=>by have:=hown _ _ _ h; omega,r.own.one⟩
      exact o'.set f'
    · exact r.sf.later t (fun _ _ h=>h.elim) (fun _ _ _ _ h=>h) fun i b x h=>by rw [Own.set_other _ _ (by simp)]; exact h
    · intro p b o h
      by_cases e:p = .stk σ.stk.length 0
      · rw [e,Own.set_same] at h; exact .inr h
      · rw [Own.set_other _ _ e] at h; exact .inl h
  | true =>
    simp only [if_true] at h
    split at h
    case isFalse=>cases h
    rename_i hu
    simp only [Option.some.injEq,Prod.mk.injEq] at h
    obtain ⟨rfl,rfl⟩:=h
    let g':G:=⟨g.sb,g.hb ++ [w.heap.size],fun b o=>g.wr b o∨b=w.heap.size∧o < cs.length⟩
    have t:Tr Nought g w g' w':=Tr.new hw (X:=fun o=>o < cs.length) (fun _ _ h=>h) (fun n b hn=>by rw [List.getElem?_append_left (List.getElem?_eq_some_iff.1 hn).1]; exact hn) henv
    have hib:∀b,g'.isBox b→g.isBox b∨b=w.heap.size:=fun b hb=>by
      rcases hb with hb | hb
      · exact .inl (.inl hb)
      · rcases List.mem_append.1 hb with hb | hb
        · exact .inl (.inr hb)
        · exact .inr (by simpa using hb)
    have hown:∀p b o,ow p b o→b < w.heap.size:=fun p b o h=>r.ss.lt _ _ (r.own.wr _ _ _ h)
    have hro:∀b o,ro b o→b < w.heap.size:=fun b o h=>r.ss.lt _ _ (f.wr _ _ h)
    have s':SS g' w' (ow.set (.heap σ.heap.length 0) ro) { σ with heap:=σ.heap ++ [.cells cs] }:={
      slen:=r.ss.slen
      hlen:=by simp [g',r.ss.hlen]
      nodup:=by
        have h0:=r.ss.nodup
        have hn:w.heap.size∉g.sb ++ g.hb:=fun hm=>hlt (List.mem_append.1 hm) rfl
        show (g.sb ++ (g.hb ++ [w.heap.size])).Nodup
        rw [←List.append_assoc,(List.perm_append_singleton _ _).nodup_iff]
        exact List.nodup_cons.2 ⟨hn,h0⟩
      lt:=fun b o h=>by
        rcases h with h | h
        · exact t.lt (r.ss.lt _ _ h)
        · rw [hw,h.1]; simp
      stk:=fun n c hn=>by
        obtain ⟨h0,b,xs,E,fz,h1,h2⟩:=r.ss.stk n c hn
        refine ⟨h0,b,xs,E,fz,h1,h2.still t (fun i b x h => ?_) fun o h => .inl h⟩
        rw [Own.set_other _ _ (by simp)]; exact h
      heap:=fun n c hn=>by
        by_cases e:n < σ.heap.length
        · rw [List.getElem?_append_left e] at hn
          obtain ⟨h0,b,xs,E,fz,h1,h2⟩:=r.ss.heap n c hn
          refine ⟨h0,b,xs,E,fz,t.hb _ _ h1,h2.still t (fun i b x h => ?_) fun o h => .inl h⟩
          rw [Own.set_other _ _ (by simp; omega)]; exact h
        · have e':n=σ.heap.length:=by
            have:=(List.getElem?_eq_some_iff.1 hn).1
            simp at this; omega
          subst e'
          rw [List.getElem?_append_right (Nat.le_refl _)] at hn
          simp at hn; subst hn
          refine ⟨hu,w.heap.size,vals,E,(0,0),by simp [g',←r.ss.hlen],hnew,?_,fun i a hi => ?_,fun i hi=>⟨.inr ⟨rfl,hi⟩,by simp⟩⟩
          · rw [←hv.1]; simp
          · obtain ⟨v,h1,h2,h3⟩:=hv.2 i a hi
            refine ⟨v,by simpa using h1,(h2.later t (fun _ _ h=>h.elim) (fun _ _ _ h=>h)).move fun b x h => ?_,h3.imp id fun h=>h.2.elim⟩
            split at h
            · rename_i h0; subst h0; rw [Own.set_same]; exact h
            · exact h.elim
      maps:=fun n es c hn=>by
        by_cases e:n < σ.heap.length
        · rw [List.getElem?_append_left e] at hn
          obtain ⟨b,xs,h1,h2⟩:=r.ss.maps n es c hn
          exact ⟨b,xs,t.hb _ _ h1,h2.still t fun o h => .inl h⟩
        · have e':n=σ.heap.length:=by
            have:=(List.getElem?_eq_some_iff.1 hn).1
            simp at this; omega
          subst e'
          rw [List.getElem?_append_right (Nat.le_refl _)] at hn
          simp at hn
      loops:=fun n l hn=>by
        by_cases e:n < σ.heap.length
        · rw [List.getElem?_append_left e] at hn
          obtain ⟨b,q,h1,h2⟩:=r.ss.loops n l hn
          exact ⟨b,q,t.hb _ _ h1,h2.still t fun o h => .inl h⟩
        · have e':n=σ.heap.length:=by
            have:=(List.getElem?_eq_some_iff.1 hn).1
            simp at this; omega
          subst e'
          rw [List.getElem?_append_right (Nat.le_refl _)] at hn
          simp at hn
      iters:=fun n l hn=>by
        by_cases e:n < σ.heap.length
        · rw [List.getElem?_append_left e] at hn
          obtain ⟨b,q,h1,h2⟩:=r.ss.iters n l hn
          exact ⟨b,q,t.hb _ _ h1,h2.still t fun o h => .inl h⟩
        · have e':n=σ.heap.length:=by
            have:=(List.getElem?_eq_some_iff.1 hn).1
            simp at this; omega
          subst e'
          rw [List.getElem?_append_right (Nat.le_refl _)] at hn
          simp at hn
      dead:=fun n hn=>by
        by_cases e:n < σ.heap.length
        · rw [List.getElem?_append_left e] at hn
          obtain ⟨b,h1,h2⟩:=r.ss.dead n hn
          exact ⟨b,t.hb _ _ h1,t.lt h2⟩
        · have e':n=σ.heap.length:=by
            have:=(List.getElem?_eq_some_iff.1 hn).1
            simp at this; omega
          subst e'
          rw [List.getElem?_append_right (Nat.le_refl _)] at hn
          simp at hn }
    refine ⟨g',ow.set (.heap σ.heap.length 0) ro,⟨s',?_,?_⟩,by simp [G.ref,g',←r.ss.hlen],t,?_,fun i=>Own.set_other _ _ (by simp),hib,fun _ _ h => .inl h,fun b h=>(List.mem_append.1 h).imp id fun h=>List.mem_singleton.1 h⟩
    · have f':Free g' ow ro:=⟨fun b o h => .inl (f.wr _ _ h),fun b o h hb=>(hib b hb).elim (f.box _ _ h) fun e=>by have:=hro _ _ h; omega,f.apart⟩
      have o':OW g' ow:=⟨fun p b o h => .inl (r.own.wr _ _ _ h),fun p b o h hb=>(hib b hb).elim (r.own.box _ _ _ h) fun e=>by have:=hown _ _ _ h; omega,r.own.one⟩
      exact o'.set f'
    · exact r.sf.later t (fun _ _ h=>h.elim) (fun _ _ _ _ h=>h) fun i b x h=>by rw [Own.set_other _ _ (by simp)]; exact h
    · intro p b o h
      by_cases e:p = .heap σ.heap.length 0
      · rw [e,Own.set_same] at h; exact .inr h
      · rw [Own.set_other _ _ e] at h; exact .inl h
end
end Go.AM
namespace Go.AM
open Go
section
variable {g g' g'':G} {w w' w'':World} {ow ow':Own} {M M':Nat→Nat→Prop} {σ σ':St} {fr:Fr} {tm:Array Value}
abbrev G.less (g:G) (X:Nat→Nat→Prop):G:={ g with wr:=fun b o=>g.wr b o∧¬X b o }
theorem Tr.less (X:Nat→Nat→Prop):Tr M g w (g.less X) w :=
  ⟨Nat.le_refl _,fun _ _ _=>rfl,fun _ _ _ _=>rfl,fun _ _ v h=>⟨v,h⟩,fun _ _ _=>rfl,fun _ _ h => .inl h.1,fun _ _ h=>h,fun _ _ h=>h,.r⟩
theorem Rel.less (r:Rel g w ow fr tm σ) {X:Nat→Nat→Prop} (hb:∀b o,X b o→¬g.isBox b) (ho:∀p b o,ow p b o→¬X b o):Rel (g.less X) w ow fr tm σ where
  ss:=r.ss.still (Tr.less X) (fun b o h=>r.ss.lt b o h.1) rfl rfl (fun b o h1 h2=>⟨h2,fun h=>hb _ _ h h1⟩) (fun _ _ _ _ h=>h) (fun _ _ _ _ h=>h)
  own:=⟨fun p b o h=>⟨r.own.wr _ _ _ h,ho _ _ _ h⟩,r.own.box,r.own.one⟩
  sf:=r.sf.later (Tr.less (M:=Nought) X) (fun _ _ h=>h.elim) (fun _ _ _ _ h=>h) (fun _ _ _ h=>h)
theorem Free.less {ro ro':Nat→Nat→Prop} {X:Nat→Nat→Prop} (f:Free g ow ro) (h:∀b o,ro' b o→ro b o∧¬X b o):Free (g.less X) ow ro' :=
  ⟨fun b o hr=>⟨f.wr _ _ (h _ _ hr).1,(h _ _ hr).2⟩,fun b o hr=>f.box _ _ (h _ _ hr).1,fun p b o hp hr=>f.apart p b o hp (h _ _ hr).1⟩
theorem May.less {X:Nat→Nat→Prop} {b o:Nat} (h:May (g.less X) ow b o):May g ow b o:=by
  rcases h with ⟨h1,h2⟩ | h
  · exact .inl ⟨h1,h2.1⟩
  · exact .inr h
theorem Uniq.calm (r : Rel g w ow fr tm σ) {ro : Nat → Nat → Prop} {sz : Nat} {es : List AV} {v : Value} (h : PV g w ro (.list .uniq sz es) v) (f : Free g ow ro) :
    ∃X ro',Rel (g.less X) w ow fr tm σ∧PV (g.less X) w ro' (.list .own sz es) v∧Free (g.less X) ow ro'∧(∀b o,ro' b o→ro b o)∧(∀b o,X b o→ro b o):=by
  obtain ⟨a,cap,xs,u⟩:=h
  let X:Nat→Nat→Prop:=fun b o=>b=a.block∧a.off≤o∧o < a.off + es.length * sz
  have hX:∀b o,X b o→ro b o:=fun b o h=>by
    obtain ⟨rfl,h1,h2⟩:=h
    have:=(u.spare (o - a.off) (Nat.zero_le _) (Nat.lt_of_lt_of_le (by omega) (Nat.mul_le_mul_right sz u.le))).1
    rwa [show a.off + (o - a.off)=o by omega] at this
  let ro':Nat→Nat→Prop:=fun b o=>ro b o∧¬X b o
  refine ⟨X,ro',r.less (fun b o h=>f.box _ _ (hX _ _ h)) (fun p b o h hx=>f.apart _ _ _ h (hX _ _ hx)),⟨?_,a,es.length,cap,u.val,u.spot,?_⟩,f.less fun b o h=>h,fun b o h=>h.1,hX⟩
  · rw [u.val]
    refine .list (.inl rfl) rfl u.le u.pos (.inr u.spot) u.elems u.low (u.vl.later ((Tr.less (M:=Nought) X).later fun _ _ h=>h.elim)) (fun i v hi=>⟨u.cell i v hi,fun hw=>hw.2 ⟨rfl,by omega,?_⟩⟩) .nil
    have:=(List.getElem?_eq_some_iff.1 hi).1
    rw [u.len] at this; omega
  · intro j h1 h2
    obtain ⟨h3,h4⟩:=u.spare j (Nat.zero_le _) h2
    exact ⟨⟨h3,fun hx=>by have:=hx.2.2; omega⟩,h4⟩
theorem elems_length {sz:Nat}:∀{es:List AV},(∀e∈es,e.cells.length=sz)→(es.flatMap AV.cells).length=es.length * sz
  | [],_=>by simp
  | e :: l,h=>by rw [List.flatMap_cons,List.length_append,elems_length fun e he=>h e (by simp [he]),h e (by simp),List.length_cons,Nat.add_mul,Nat.one_mul,Nat.add_comm]
theorem Rel.fresh (r : Rel g w ow fr tm σ) {sz cap : Nat} {es : List AV} {xs rest : List Value} {E : TypeId} {fz : Nat × Nat} (hsz : 0 < sz) (he : Elems sz es) (hlow : AV.under.go 0 es = true) (hv : VL g w (es.flatMap AV.cells) xs)
    (hcap:es.length≤cap) (hl:(xs ++ rest).length=cap * sz) (hfz:∀o,o < cap * sz∨1 < sz→¬(fz.1≤o∧o < fz.2)) (hw:w'.heap=w.heap.push (.cells (xs ++ rest).toArray E fz)) (henv:SameEnv w w':=by exact .r) :
    ∃wr' ro,Rel { g with wr:=wr' } w' ow fr tm σ∧Tr Nought g w { g with wr:=wr' } w'∧Free { g with wr:=wr' } ow ro∧(∀b o,ro b o→b=w.heap.size)∧(∀b o,wr' b o→g.wr b o∨b=w.heap.size)∧(∀b o,g.wr b o→wr' b o) ∧
      PV { g with wr:=wr' } w' ro (.list .uniq sz es) (.slice (some ⟨w.heap.size,0,none⟩) es.length cap):=by
  have hnew:w'.heap[w.heap.size]? = some (.cells (xs ++ rest).toArray E fz):=by rw [hw]; simp
  have hne:∀{b:Nat},g.isBox b→b≠w.heap.size:=fun hb e=>by have:=G.isBox_lt r.ss hb; omega
  have hown:∀p b o,ow p b o→b < w.heap.size:=fun p b o h=>r.ss.lt _ _ (r.own.wr _ _ _ h)
  have t:Tr Nought g w { g with wr:=fun b o=>g.wr b o∨b=w.heap.size∧o < cap * sz } w':=Tr.new hw (fun _ _ h=>h) (fun _ _ h=>h) henv
  refine ⟨fun b o=>g.wr b o∨b=w.heap.size∧o < cap * sz,fun b o=>b=w.heap.size∧o < cap * sz,⟨?_,?_,?_⟩,t,⟨fun b o h => .inr h,?_,?_⟩,fun b o h=>h.1,fun b o h=>h.imp id And.left,fun b o h => .inl h,⟨w.heap.size,0,none⟩,cap,xs,?_⟩
  · refine r.ss.still t (fun b o h => ?_) rfl rfl (fun b o _ h => .inl h) (fun _ _ _ _ h=>h) (fun _ _ _ _ h=>h)
    rcases h with h | h
    · exact t.lt (r.ss.lt _ _ h)
    · rw [hw,h.1]; simp
  · exact ⟨fun p b o h => .inl (r.own.wr _ _ _ h),r.own.box,r.own.one⟩
  · exact r.sf.later t (fun _ _ h=>h.elim) (fun _ _ _ _ h=>h) fun _ _ _ h=>h
  · intro b o h hb; exact hne hb h.1
  · intro p b o h h'; have:=hown _ _ _ h; have:=h'.1; omega
  · have hxl:xs.length=es.length * sz:=by rw [hv.length,elems_length fun e h=>(he e h).1]
    refine ⟨rfl,hcap,hsz,rfl,he,hlow,hv.later (t.later fun _ _ h=>h.elim),fun i v hi => ?_,fun j _ hj=>⟨⟨rfl,by simpa using hj⟩,?_,?_⟩,rfl,by rw [hw]; simp,fun x hx=>hx.resolve_left fun h=>by have:=r.ss.lt _ _ h; simp at this,fun hs x=>by simpa only [World.frozen?,hnew,Bool.and_eq_false_imp,decide_eq_true_eq,decide_eq_false_iff_not,not_and] using hfz x (.inr hs)⟩
    · simp only [World.cell?,hnew]
      have:=(List.getElem?_eq_some_iff.1 hi).1
      simp [List.getElem?_append_left this,hi]
    · have:j < (xs ++ rest).length:=by omega
      exact ⟨_,by simp only [World.cell?,hnew]; simp; exact List.getElem?_eq_getElem this⟩
    · simp only [World.frozen?,hnew]
      have:=hfz j (.inl hj)
      simpa using this
theorem Rel.touch (r:Rel g w ow fr tm σ) {ro:Nat→Nat→Prop} (f:Free g ow ro) (t:Tr M g w g w') (hM:∀b o,M b o→ro b o):Rel g w' ow fr tm σ where
  own:=r.own
  sf:=r.sf.later t (fun b o h=>f.wr _ _ (hM _ _ h)) (fun i b o h h'=>f.apart _ _ _ h (hM _ _ h')) fun _ _ _ h=>h
  ss:={
    slen:=r.ss.slen
    hlen:=r.ss.hlen
    nodup:=r.ss.nodup
    lt:=fun b o h=>t.lt (r.ss.lt _ _ h)
    stk:=fun n cs hn=>by
      obtain ⟨h0,b,xs,E,fz,h1,h2⟩:=r.ss.stk n cs hn
      exact ⟨h0,b,xs,E,fz,h1,h2.later t (fun b o h=>f.wr _ _ (hM _ _ h)) (fun o h=>f.box _ _ (hM _ _ h) (.inl (List.mem_of_getElem? h1))) (fun i b x h h'=>f.apart _ _ _ h (hM _ _ h')) (fun _ _ _ h=>h) fun _ h=>h⟩
    heap:=fun n cs hn=>by
      obtain ⟨h0,b,xs,E,fz,h1,h2⟩:=r.ss.heap n cs hn
      exact ⟨h0,b,xs,E,fz,h1,h2.later t (fun b o h=>f.wr _ _ (hM _ _ h)) (fun o h=>f.box _ _ (hM _ _ h) (.inr (List.mem_of_getElem? h1))) (fun i b x h h'=>f.apart _ _ _ h (hM _ _ h')) (fun _ _ _ h=>h) fun _ h=>h⟩
    maps:=fun n es c hn=>by
      obtain ⟨b,xs,h1,h2⟩:=r.ss.maps n es c hn
      exact ⟨b,xs,h1,h2.later t (fun b o h=>f.wr _ _ (hM _ _ h)) (fun o h=>f.box _ _ (hM _ _ h) (.inr (List.mem_of_getElem? h1))) fun _ h=>h⟩
    loops:=fun n l hn=>by
      obtain ⟨b,q,h1,h2⟩:=r.ss.loops n l hn
      exact ⟨b,q,h1,h2.later t (fun b o h=>f.wr _ _ (hM _ _ h)) (fun o h=>f.box _ _ (hM _ _ h) (.inr (List.mem_of_getElem? h1))) fun _ h=>h⟩
    iters:=fun n l hn=>by
      obtain ⟨b,q,h1,h2⟩:=r.ss.iters n l hn
      exact ⟨b,q,h1,h2.later t (fun o h=>f.box _ _ (hM _ _ h) (.inr (List.mem_of_getElem? h1))) fun _ h=>h⟩
    dead:=fun n hn=>by
      obtain ⟨b,h1,h2⟩:=r.ss.dead n hn
      exact ⟨b,h1,t.lt h2⟩ }
theorem Lies.app {a:Addr} {xs ys:List Value} (h:Lies g w a xs) (h':∀(i:Nat) (v:Value),ys[i]? = some v→w.cell? ⟨a.block,a.off + (xs.length + i),none⟩=some v∧¬g.wr a.block (a.off + (xs.length + i))):Lies g w a (xs ++ ys):=by
  intro i v hi
  by_cases e:i < xs.length
  · rw [List.getElem?_append_left e] at hi; exact h i v hi
  · rw [List.getElem?_append_right (Nat.le_of_not_lt e)] at hi
    have:=h' _ _ hi
    rwa [show xs.length + (i - xs.length)=i by omega] at this
theorem Elems.app {sz:Nat} {es is:List AV} (h:Elems sz es) (h':Elems sz is):Elems sz (es ++ is):=fun e he=>by
  rcases List.mem_append.1 he with he | he
  · exact h e he
  · exact h' e he
theorem Rel.grow (r : Rel g w ow fr tm σ) {ro : Nat → Nat → Prop} {sz n cap : Nat} {es items : List AV} {fl : Fl} {news : List Value} {a : Addr} (hfl : fl = .own ∨ fl = .uniq) (h : PV g w ro (.list fl sz es) (.slice (some a) n cap)) (f : Free g ow ro)
    (he:Elems sz items) (hlow:AV.under.go 0 items=true) (hv:VL g w (items.flatMap AV.cells) news) (hcap:n + items.length≤cap) :
    n=es.length∧a.spot=none∧0 < sz∧news.length=items.length * sz ∧
    (∀j,j < news.length→(w.cell? ⟨a.block,a.off + n * sz + j,none⟩).isSome=true)∧(∀j,j < news.length→w.frozen? ⟨a.block,a.off + n * sz + j,none⟩=false) ∧
    ∃X ro',Rel (g.less X) (w.setCells a.block (a.off + n * sz) news) ow fr tm σ∧Tr ro g w (g.less X) (w.setCells a.block (a.off + n * sz) news)∧Free (g.less X) ow ro'∧(∀b o,ro' b o→ro b o)∧(∀b o,X b o→ro b o) ∧
      PV (g.less X) (w.setCells a.block (a.off + n * sz) news) ro' (.list fl sz (es ++ items)) (.slice (some a) (n + items.length) cap):=by
  have hnl:news.length=items.length * sz:=by rw [hv.length,elems_length fun e h=>(he e h).1]
  have hmul:(n + items.length) * sz≤cap * sz:=Nat.mul_le_mul_right _ hcap
  rw [Nat.add_mul] at hmul
  have main : ∀ (hs : Spare w ro a (n * sz) (cap * sz)),
      (∀j,j < news.length→(w.cell? ⟨a.block,a.off + n * sz + j,none⟩).isSome=true)∧(∀j,j < news.length→w.frozen? ⟨a.block,a.off + n * sz + j,none⟩=false) ∧
      Tr (fun b' o=>b'=a.block∧a.off + n * sz≤o∧o < a.off + n * sz + news.length) g w g (w.setCells a.block (a.off + n * sz) news) ∧
      (∀b' o,(b'=a.block∧a.off + n * sz≤o∧o < a.off + n * sz + news.length)→ro b' o):=by
    intro hs
    have hj:∀j,j < news.length→ro a.block (a.off + n * sz + j)∧(∃v,w.cell? ⟨a.block,a.off + n * sz + j,none⟩=some v)∧w.frozen? ⟨a.block,a.off + n * sz + j,none⟩=false:=fun j hj=>by
      have:=hs (n * sz + j) (by omega) (by omega)
      rwa [←Nat.add_assoc] at this
    have hc:∀j,j < news.length→(w.cell? ⟨a.block,a.off + n * sz + j,none⟩).isSome=true:=fun j h=>by obtain ⟨v,hv⟩:=(hj j h).2.1; rw [hv]; rfl
    have hf:=fun j h=>(hj j h).2.2
    refine ⟨hc,hf,Tr.setCells hc hf,fun b' o h => ?_⟩
    obtain ⟨rfl,h1,h2⟩:=h
    have:=(hj (o - (a.off + n * sz)) (by omega)).1
    rwa [show a.off + n * sz + (o - (a.off + n * sz))=o by omega] at this
  have hin:∀(hc:∀j,j < news.length→(w.cell? ⟨a.block,a.off + n * sz + j,none⟩).isSome=true) (i:Nat) (v:Value),news[i]? = some v→(w.setCells a.block (a.off + n * sz) news).cell? ⟨a.block,a.off + n * sz + i,none⟩=some v:=by
    intro hc i v hi
    obtain ⟨hl,rfl⟩:=List.getElem?_eq_some_iff.1 hi
    exact World.cell?_setCells_in _ news _ w hc i hl
  rcases hfl with rfl | rfl
  · obtain ⟨hV,a',len,cap',heq,h5,hs⟩:=h
    injection heq with h1 h2 h3
    injection h1 with h1; subst h1; subst h2; subst h3
    cases hV with
    | @list _ _ _ _ _ _ xs _ _ h1 h2 h3 h4 _ h6 h7 h8 h9 _ =>
    obtain ⟨hc,hf,t,hM⟩:=main hs
    let X:Nat→Nat→Prop:=fun b' o=>b'=a.block∧a.off + n * sz≤o∧o < a.off + n * sz + news.length
    have r1:=r.touch f t hM
    have r2:=r1.less (X:=X) (fun b o h=>f.box _ _ (hM _ _ h)) (fun p b o h h'=>f.apart _ _ _ h (hM _ _ h'))
    have t2:Tr X g w (g.less X) (w.setCells a.block (a.off + n * sz) news):=t.trans (Tr.less (M:=X) X) fun b o h => .inl h
    have L:=t2.later fun b o h=>f.wr _ _ (hM _ _ h)
    have hxl:xs.length=n * sz:=by rw [h8.length,elems_length fun e h=>(h6 e h).1,h2]
    refine ⟨h2,h5,h4,hnl,hc,hf,X,fun b o=>ro b o∧¬X b o,r2,t2.weaken hM,f.less fun b o h=>h,fun b o h=>h.1,hM,?_,a,n + items.length,cap,rfl,h5,?_⟩
    · refine .list (xs:=xs ++ news) (.inl rfl) (by rw [List.length_append,←h2]) hcap h4 (.inr h5) (h6.app he) (by rw [under_app,h7,hlow]; rfl) (by rw [List.flatMap_append]; exact (h8.later L).app (hv.later L)) ((h9.later L).app fun i v hi => ?_) .nil
      rw [hxl,←Nat.add_assoc]
      exact ⟨hin hc i v hi,fun hw=>hw.2 ⟨rfl,by omega,by have:=(List.getElem?_eq_some_iff.1 hi).1; omega⟩⟩
    · intro j hj1 hj2
      rw [Nat.add_mul] at hj1
      obtain ⟨g1,⟨v,g2⟩,g3⟩:=hs j (by omega) hj2
      obtain ⟨v',g4⟩:=t.live _ _ _ g2
      exact ⟨⟨g1,fun hx=>by have:=hx.2.2; omega⟩,⟨v',g4⟩,by rw [t.froz _ _ (cell_lt g2)]; exact g3⟩
  · obtain ⟨a',cap',xs,u⟩:=h
    have heq:=u.val
    injection heq with h1 h2 h3
    injection h1 with h1; subst h1; subst h3
    have hs:Spare w ro a (n * sz) (cap * sz):=fun j h1 h2=>u.spare j (Nat.zero_le _) h2
    obtain ⟨hc,hf,t,hM⟩:=main hs
    let X:Nat→Nat→Prop:=fun _ _=>False
    have r2:=(r.touch f t hM).less (X:=X) (fun b o h=>h.elim) (fun p b o h h'=>h')
    have t2:Tr ro g w (g.less X) (w.setCells a.block (a.off + n * sz) news):=(t.weaken hM).trans (Tr.less (M:=Nought) X) fun b o h=>h.elim
    have L:=t2.later fun b o h=>f.wr _ _ h
    have hxl:xs.length=n * sz:=by rw [u.len,h2]
    refine ⟨h2,u.spot,u.pos,hnl,hc,hf,X,ro,r2,t2,f.less fun b o h=>⟨h,fun h=>h⟩,fun b o h=>h,fun b o h=>h.elim,a,cap,xs ++ news,by rw [List.length_append,h2],by rw [List.length_append,←h2]; exact hcap,u.pos,u.spot,u.elems.app he,by rw [under_app,u.low,hlow]; rfl,by rw [List.flatMap_append]; exact (u.vl.later L).app (hv.later L),?_,?_,?_,?_,?_,fun hs x=>by rw [t2.froz _ _ u.lt]; exact u.nf hs x⟩
    · intro i v hi
      by_cases e:i < xs.length
      · rw [List.getElem?_append_left e] at hi
        rw [t.cell _ _ (cell_lt (u.cell i v hi)) (fun h=>by have:=h.2.1; omega)]
        exact u.cell i v hi
      · rw [List.getElem?_append_right (Nat.le_of_not_lt e)] at hi
        have:=hin hc _ _ hi
        rwa [show a.off + n * sz + (i - xs.length)=a.off + i by omega] at this
    · exact u.spare.later t
    · exact u.off
    · exact Nat.lt_of_lt_of_le u.lt t.size
    · exact fun x hx=>u.all x hx.1
end
end Go.AM
namespace Go.AM
open Go
structure Out (g:G) (w:World) (ow:Own) (dst:Option Tmp) (v:AV) (fr':Fr) (σ':St) (tm:Array Value) (g':G) (w':World) (ow':Own) (val:Value):Prop where
  rel:Rel g' w' ow' (putA dst v fr') (put dst val tm) σ'
  tr:Tr (May g ow) g w g' w'
  may:∀b o,May g' ow' b o→May g ow b o∨w.heap.size≤b
  keep:∀b o,g.wr b o→May g ow b o∨g'.wr b o
  hbn:∀b,b∈g'.hb→b∈g.hb∨w.heap.size≤b
theorem act_put (a:Act) (dst:Option Tmp) (v:Value):(a.put dst v).tmps=put dst v a.tmps:=by cases dst <;> rfl
theorem val_run {α:Type} {P:Program}:∀{s:Sem α} {x:α},val P s=some x→∀w:World,s.run P w = .ok x w
  | .pure a,x,h,w=>by simp [val] at h; subst h; rfl
  | .program k,x,h,w=>by simp only [val] at h; simp only [Sem.run]; exact val_run h w
  | .load ..,_,h,_=>by simp [val] at h
  | .store ..,_,h,_=>by simp [val] at h
  | .new ..,_,h,_=>by simp [val] at h
  | .shape ..,_,h,_=>by simp [val] at h
  | .freeze ..,_,h,_=>by simp [val] at h
  | .frozen ..,_,h,_=>by simp [val] at h
  | .getObj ..,_,h,_=>by simp [val] at h
  | .setObj ..,_,h,_=>by simp [val] at h
  | .choose ..,_,h,_=>by simp [val] at h
  | .sys ..,_,h,_=>by simp [val] at h
  | .mark ..,_,h,_=>by simp [val] at h
  | .halt ..,_,h,_=>by simp [val] at h
section
variable {P:Program} {g g':G} {w w':World} {ow ow' ow1:Own} {σ σ':St} {fr fr':Fr} {tm:Array Value} {o:Oper} {a:Act} {next:Act→World→Prop} {Q:Exit→Act→World→Prop}
theorem Out.of {dst : Option Tmp} {v : AV} {val : Value} {ro : Nat → Nat → Prop} (r : Rel g' w' ow1 fr' tm σ') (hv : PV g' w' ro v val) (f : Free g' ow1 ro) (t : Tr (May g ow) g w g' w')
    (h1:∀p b o,ow1 p b o→May g ow b o∨w.heap.size≤b) (h2:∀b o,ro b o→May g ow b o∨w.heap.size≤b) (h3:∀b o,g'.isBox b→g'.wr b o→May g ow b o∨w.heap.size≤b)
    (h4:∀b o,g.wr b o→May g ow b o∨g'.wr b o) (h5:∀b,b∈g'.hb→b∈g.hb∨w.heap.size≤b) :
    ∃ow',Out g w ow dst v fr' σ' tm g' w' ow' val:=by
  obtain ⟨ow',r',k1,_,_⟩:=r.put (dst:=dst) hv f
  exact ⟨ow',r',t,fun b o h=>by
    rcases h with h | ⟨p,h⟩
    · exact h3 b o h.1 h.2
    · rcases k1 p b o h with h | h
      · exact h1 p b o h
      · exact h2 b o h,h4,h5⟩
theorem May.own {b o:Nat} {p:Pl} (h:ow p b o):May g ow b o := .inr ⟨p,h⟩
theorem Out.pure {dst:Option Tmp} {v:AV} {val:Value} (r:Rel g w ow fr tm σ) (hv:V g w v val):∃ow',Out g w ow dst v fr σ tm g w ow' val :=
  Out.of r (PV.of (o:=Nobody) hv) (Free.nobody _ _) (Tr.refl _ _ _) (fun p b o h => .inl (.own h)) (fun b o h=>h.elim) (fun b o h1 h2 => .inl (.inl ⟨h1,h2⟩)) (fun _ _ h => .inr h) (fun _ h => .inl h)
def FW:Option Nat→Fence
  | none=>Fence.wide
  | some l=>Fence.wide.inRound l
theorem FW_fn (rd:Option Nat) (f:FuncId):(FW rd).fn f:=by cases rd <;> trivial
theorem FW_depth (rd:Option Nat) (n:Nat):(FW rd).depth.isSome=true→1≤n:=by cases rd <;> exact fun h=>by simp [FW,Fence.wide,Fence.inRound] at h
theorem FW_round (rd:Option Nat):(FW rd).round=rd:=by cases rd <;> rfl
theorem FW_calls {rd:Option Nat} {n:Nat} {f:FuncId} {args:Array Value} {R:Ending→World→Prop} (h:Calls P f args w R):CallsIn (FW rd) n P f args w R:=by
  cases rd with
  | none=>exact callsIn_wide.2 h
  | some l=>exact (callsIn_wide (n:=n)).2 h
theorem semAt_of {rd:Option Nat} {x:Next} (hr:(execOp a.eval o).run P w = .ok x w') (hx:∀d,x≠.defer d):(o.semAt rd a.eval).run P w = .ok x w':=by
  rw [Oper.semAt_eq rd a.eval o fun c hc => ?_]
  · exact hr
  · simp only [execOp,hc,Sem.run_bind] at hr
    cases hres:(resolve a.eval c o.type).run P w with
    | ok d w2=>rw [hres] at hr; simp only [Result.andThen_ok,Sem.run_pure,Result.ok.injEq] at hr; exact hx d hr.1.symm
    | halt h w2=>rw [hres] at hr; cases hr
theorem wp_value {rd : Option Nat} {val : Value} {v : AV} (hr : (execOp a.eval o).run P w = .ok (.value val) w') (ho : ∃ ow', Out g w ow o.dst v fr' σ' a.tmps g' w' ow' val)
    (hn:∀g' w' ow' val,Out g w ow o.dst v fr' σ' a.tmps g' w' ow' val→next (a.put o.dst val) w'):o.wpIn (FW rd) 0 P a w next Q:=by
  obtain ⟨ow',ho⟩:=ho
  refine ⟨fun f _=>FW_fn rd f,?_⟩
  rw [FW_round,semAt_of hr (by simp)]; exact hn _ _ _ _ ho
theorem wp_skipped {rd : Option Nat} {v : AV} (hr : (execOp a.eval o).run P w = .ok .skip w') (ho : ∃ ow', Out g w ow o.dst v fr' σ' a.tmps g' w' ow' undef)
    (hn:∀g' w' ow' val,Out g w ow o.dst v fr' σ' a.tmps g' w' ow' val→next (a.put o.dst val) w'):o.wpIn (FW rd) 0 P a w next Q:=by
  obtain ⟨ow',ho⟩:=ho
  refine ⟨fun f _=>FW_fn rd f,?_⟩
  rw [FW_round,semAt_of hr (by simp)]; exact hn _ _ _ _ ho
theorem PV.sh {ro:Nat→Nat→Prop} {x:AV} {v:Value} (h:PV g w ro x v) (hx:∀sz es,x≠.list .uniq sz es):V g w x.sh v:=by
  cases x with
  | list fl sz es =>
    cases fl with
    | own=>exact h.1
    | uniq=>exact (hx _ _ rfl).elim
    | sh=>exact h
    | full=>exact h
  | _=>exact h
theorem taken_true (r : Rel g w ow fr a.tmps σ) (x : Operand) :
    ∃ow1,Rel g w ow1 (taken true fr x).2 a.tmps σ∧PV g w (ownOf ow x) (taken true fr x).1 (a.eval x)∧Free g ow1 (ownOf ow x)∧(∀p b o,ow1 p b o→ow p b o):=by
  cases x with
  | tmp t =>
    obtain ⟨h1,h2,h3⟩:=r.take t
    refine ⟨_,h2,h1,h3,fun p b o h => ?_⟩
    by_cases e:p = .slot t
    · rw [e,Own.set_same] at h; exact h.elim
    · rw [Own.set_other _ _ e] at h; exact h
  | const v=>exact ⟨ow,r,r.sf.opnd _,Free.nobody _ _,fun _ _ _ h=>h⟩
  | global n=>exact ⟨ow,r,r.sf.opnd _,Free.nobody _ _,fun _ _ _ h=>h⟩
  | func f=>exact ⟨ow,r,r.sf.opnd _,Free.nobody _ _,fun _ _ _ h=>h⟩
theorem set_same (fr:Fr) (t:Nat) (x:AV) (h:fr.getD t .undef=x) (hx:x≠.undef):fr.set t x=fr:=by
  apply List.ext_getElem?
  intro i
  by_cases e:i=t
  · subst e
    by_cases hl:i < fr.length
    · rw [List.getElem?_set_self hl,List.getElem?_eq_getElem hl]; simp [List.getD,hl] at h; rw [h]
    · simp [List.getD,hl] at h; exact (hx h.symm).elim
  · rw [List.getElem?_set_ne (Ne.symm e)]
theorem taken_false (r : Rel g w ow fr a.tmps σ) (x : Operand) :
    ∃g1 ow1,Rel g1 w ow1 (taken false fr x).2 a.tmps σ∧V g1 w (taken false fr x).1 (a.eval x)∧Tr (May g ow) g w g1 w∧(∀p b o,ow1 p b o→ow p b o)∧(∀b o,g1.wr b o→g.wr b o)∧(∀b,g1.isBox b→g.isBox b)∧(∀b o,g.wr b o→g1.wr b o∨∃p,ow p b o)∧g1.sb=g.sb∧g1.hb=g.hb:=by
  have plain:∀(h:(taken false fr x)=((opnd fr x).sh,fr)) (h':∀sz es,opnd fr x≠.list .uniq sz es),∃g1 ow1,Rel g1 w ow1 (taken false fr x).2 a.tmps σ∧V g1 w (taken false fr x).1 (a.eval x)∧Tr (May g ow) g w g1 w∧(∀p b o,ow1 p b o→ow p b o)∧(∀b o,g1.wr b o→g.wr b o)∧(∀b,g1.isBox b→g.isBox b)∧(∀b o,g.wr b o→g1.wr b o∨∃p,ow p b o)∧g1.sb=g.sb∧g1.hb=g.hb:=by
    intro h h'
    rw [h]
    exact ⟨g,ow,r,(r.sf.opnd x).sh h',Tr.refl _ _ _,fun _ _ _ h=>h,fun _ _ h=>h,fun _ h=>h,fun _ _ h => .inl h,rfl,rfl⟩
  cases x with
  | tmp t =>
    by_cases hu:∃sz es,fr.getD t .undef = .list .uniq sz es
    · obtain ⟨sz,es,hu⟩:=hu
      have ht:taken false fr (.tmp t)=(.list .sh sz es,fr.set t (.list .own sz es)):=by unfold taken; simp only [Bool.false_eq_true,if_false,hu]
      rw [ht]
      obtain ⟨h1,h2,h3⟩:=r.take t
      rw [hu] at h1 h2
      obtain ⟨X,ro',r',hp,f',k1,k2⟩:=Uniq.calm h2 h1 h3
      obtain ⟨ow2,r2,k3,k4,k5⟩:=r'.put (dst:=none) hp f'
      have hV:V (g.less X) w (.list .sh sz es) (a.eval (.tmp t)):=hp.1
      refine ⟨g.less X,(ow.set (.slot t) Nobody).set (.slot t) ro',⟨?_,r'.own.set f',?_⟩,hV,Tr.less X,?_,fun _ _ h=>h.1,fun _ h=>h,fun b o h=>(Classical.em (X b o)).elim (fun hx => .inr ⟨_,k2 _ _ hx⟩) fun hx => .inl ⟨h,hx⟩,rfl,rfl⟩
      · exact r'.ss.own (fun n i b x h=>by rw [Own.set_other _ _ (by simp)]; exact h) (fun n i b x h=>by rw [Own.set_other _ _ (by simp)]; exact h)
      · have hs:=r'.sf
        refine ⟨by rw [hs.size]; simp,fun i x hi => ?_⟩
        by_cases e:i=t
        · subst e
          have hl:i < fr.length:=by
            rcases Nat.lt_or_ge i fr.length with h | h
            · exact h
            · rw [List.getElem?_eq_none (by simpa using h)] at hi; simp at hi
          rw [List.getElem?_set_self hl] at hi
          injection hi with hi; subst hi
          obtain ⟨v,hv1,_⟩:=r.sf.val i _ (List.getElem?_eq_getElem hl)
          refine ⟨v,hv1,?_⟩
          rw [Own.set_same]
          have:a.tmps.getD i undef=v:=by simp [hv1]
          rw [←this]; exact hp
        · rw [List.getElem?_set_ne (Ne.symm e)] at hi
          obtain ⟨u,hu1,hu2⟩:=hs.val i x (by rw [List.getElem?_set_ne (Ne.symm e)]; exact hi)
          exact ⟨u,hu1,by rw [Own.set_other _ _ (by simpa using e)]; exact hu2⟩
      · intro p b o h
        by_cases e:p = .slot t
        · rw [e,Own.set_same] at h; exact e▸k1 _ _ h
        · rw [Own.set_other _ _ e,Own.set_other _ _ e] at h; exact h
    · refine plain ?_ fun sz es h=>hu ⟨sz,es,h⟩
      unfold taken
      simp only [Bool.false_eq_true,if_false]
      split
      · rename_i sz es h; exact (hu ⟨sz,es,h⟩).elim
      · rfl
  | const v => 
    have hc:=opnd_const_common fr (.const v) (by simp)
    refine plain ?_ fun sz es h=>by rw [h] at hc; simp [AV.common] at hc
    have:(opnd fr (.const v)).sh=opnd fr (.const v):=by revert hc; cases opnd fr (.const v) with | list fl _ _=>cases fl <;> simp [AV.common,AV.sh] | _=>simp [AV.sh]
    rw [this]; rfl
  | global n=>exact plain rfl fun sz es h=>by simp [opnd] at h
  | func f=>exact plain rfl fun sz es h=>by simp [opnd] at h
end
end Go.AM
namespace Go.AM
open Go
section
variable {P:Program} {g:G} {w:World}
theorem run_sizeOf {t:TypeId} (h:P.cellsOf t≠0) (w:World):(sizeOf t).run P w = .ok (P.cellsOf t) w:=by
  unfold Program.cellsOf at h ⊢
  cases hi:P.info? t with
  | none=>simp [hi] at h
  | some i=>simp [sizeOf,typeInfo,hi]
theorem info_of_underlying {t:TypeId} {d:TypeDesc} (h:P.underlying t=some d):∃i,P.info? t=some i:=by
  unfold Program.underlying at h
  cases hi:P.info? t with
  | none=>simp [hi] at h
  | some i=>exact ⟨i,rfl⟩
theorem run_aggOf {t:TypeId} {b:Bool} (h:aggOf P t=some b) (w:World):(Go.isAgg t).run P w = .ok b w:=by
  unfold aggOf at h
  cases hu:P.underlying t with
  | none=>simp [hu] at h
  | some d=>cases d <;> simp [hu] at h <;> subst h <;> simp [Go.isAgg,run_underlying hu]
theorem V.rop_drop {cs:List AV} {a:Addr} {n:Nat} (h:V g w (.rop cs) (.pointer (some a))):V g w (.rop (cs.drop n)) (.pointer (some (a.add n))):=by
  cases h with
  | @rop _ _ xs _ _ h1 h2 h3 h4 h5 _ =>
  have hadd:a.add n=⟨a.block,a.off + n,none⟩:=by
    unfold Addr.add; split
    · rename_i h0; subst h0; cases a; simp_all
    · rfl
  rw [hadd]
  refine .rop rfl (fun c hc=>h2 c (List.mem_of_mem_drop hc)) ?_ (h4.drops n) ?_ .nil
  · rw [under_mem] at *; exact fun c hc=>h3 c (List.mem_of_mem_drop hc)
  · intro i v hi
    rw [List.getElem?_drop] at hi
    have:=h5 _ _ hi
    rwa [←Nat.add_assoc] at this
theorem V.ptr_inv {r:Ref} {off:Nat} {v:Value} (h:V g w (.ptr r off) v):∃b,v = .pointer (some ⟨b,off,none⟩)∧g.ref r=some b:=by
  cases h with
  | ptr h1 _=>exact ⟨_,rfl,h1⟩
theorem V.rop_inv {cs:List AV} {v:Value} (h:V g w (.rop cs) v):∃a,v = .pointer (some a):=by
  cases h with
  | rop h1 _ _ _ _ _=>exact ⟨_,rfl⟩
theorem V.sc_inv {x:Sc} {v:Value} (h:V g w (.s x) v):v=x.toV:=by cases h; rfl
theorem V.shift {p q:AV} {n:Nat} {v:Value} (h:V g w p v) (hs:shift p n=some q):∃a,v = .pointer (some a)∧V g w q (.pointer (some (a.add n))):=by
  cases p <;> simp only [AM.shift] at hs
  case ptr r off =>
    injection hs with hs; subst hs
    obtain ⟨b,rfl,hr⟩:=h.ptr_inv
    refine ⟨_,rfl,?_⟩
    rw [Addr.add_lit]
    exact .ptr hr .nil
  case rop cs =>
    injection hs with hs; subst hs
    obtain ⟨a,rfl⟩:=h.rop_inv
    exact ⟨a,rfl,h.rop_drop⟩
  all_goals cases hs
theorem fieldAt_run {s : TypeId} {i : Nat} {q : Field} {x v : AV} {xv : Value} (hf : fieldOf P s i = some q) (h0 : P.cellsOf q.type ≠ 0) (hx : V g w x xv) (hs : AM.shift x q.offset = some v) :
    ∃val,(Instr.fieldAt s xv i).run P w = .ok val w∧V g w v val:=by
  obtain ⟨a,rfl,hv⟩:=hx.shift hs
  refine ⟨_,?_,hv⟩
  unfold fieldOf at hf
  cases hu:P.underlying s with
  | none=>simp [hu] at hf
  | some d =>
    cases d <;> simp [hu] at hf
    simp [Instr.fieldAt,run_underlying hu,hf,Instr.sureAddr,fieldPlace,run_sizeOf h0,h0]
theorem V.elem {fl:Fl} {sz:Nat} {es:List AV} {a:Addr} {len cap i:Nat} {e:AV} (h:V g w (.list fl sz es) (.slice (some a) len cap)) (hi:es[i]? = some e):V g w (.rop e.cells) (.pointer (some (a.add (i * sz)))):=by
  cases h with
  | @list _ _ _ _ _ _ xs _ _ h1 h2 h3 h4 h5 h6 h7 h8 h9 _ =>
  have h5:=h5.resolve_left (by rintro rfl; simp at hi)
  have hadd:a.add (i * sz)=⟨a.block,a.off + i * sz,none⟩:=by
    unfold Addr.add; split
    · rename_i h0; rw [h0]; cases a; simp_all
    · rfl
  have hmem:=List.mem_of_getElem? hi
  obtain ⟨hl,hf⟩:=h6 e hmem
  have hpre:es.take i ++ e :: es.drop (i + 1)=es:=by
    obtain ⟨hlt,rfl⟩:=List.getElem?_eq_some_iff.1 hi
    rw [←List.drop_eq_getElem_cons hlt,List.take_append_drop]
  have hcut:(es.flatMap AV.cells).drop (i * sz)=e.cells ++ (es.drop (i + 1)).flatMap AV.cells:=by
    conv=>lhs; rw [←hpre]
    rw [List.flatMap_append,List.flatMap_cons]
    have:((es.take i).flatMap AV.cells).length=i * sz:=by
      rw [elems_length fun x hx=>(h6 x (List.mem_of_mem_take hx)).1,List.length_take]
      have:=(List.getElem?_eq_some_iff.1 hi).1
      rw [Nat.min_eq_left (by omega)]
    rw [←this,List.drop_left]
  have hvl:VL g w e.cells ((xs.drop (i * sz)).take sz):=by
    have h10:=(h8.drops (i * sz)).takes sz
    rw [hcut,←hl,List.take_left] at h10
    rw [hl] at h10; exact h10
  rw [hadd]
  refine .rop rfl hf (under_cells1 ((under_mem.1 h7) e hmem)) hvl ?_ .nil
  · intro j v hj
    rw [List.getElem?_take] at hj
    split at hj
    · rw [List.getElem?_drop] at hj
      have:=h9 _ _ hj
      rwa [←Nat.add_assoc] at this
    · cases hj
end
end Go.AM
namespace Go.AM
open Go
section
variable {P:Program} {g:G} {w:World}
theorem V.list_inv {fl:Fl} {sz:Nat} {es:List AV} {v:Value} (h:V g w (.list fl sz es) v):(∃a cap,v = .slice (some a) es.length cap∧es.length≤cap)∨(fl = .sh∧es=[]∧v = .slice none 0 0):=by
  cases h with
  | @list _ _ _ a len cap _ _ _ h1 h2 h3 h4 h5 h6 h7 h8 h9 _=>subst h2; exact .inl ⟨_,_,rfl,h3⟩
  | lnil _ _=>exact .inr ⟨rfl,rfl,rfl⟩
theorem V.list_pos {fl:Fl} {sz:Nat} {es:List AV} {v:Value} (h:V g w (.list fl sz es) v):0 < sz:=by
  cases h with
  | list _ _ _ h4 _ _ _ _ _ _=>exact h4
  | lnil h _=>exact h
theorem V.row_inv {r:Ref} {off len cap:Nat} {v:Value} (h:V g w (.row r off len cap) v):∃b c,v = .slice (some ⟨b,off,none⟩) len c∧g.ref r=some b∧len≤cap∧cap≤c:=by
  cases h with
  | row h1 h2 h3 _=>exact ⟨_,_,rfl,h1,h2,h3⟩
theorem V.agg_inv {cs:List AV} {v:Value} (h:V g w (.agg cs) v):∃xs:Array Value,v = .agg xs∧(∀c∈cs,c.isCell=true)∧VL g w cs xs.toList:=by
  cases h with
  | agg h0 h1 _=>exact ⟨_,rfl,h0,h1⟩
theorem V.tup_inv {cs:List AV} {v:Value} (h:V g w (.tup cs) v):∃xs:Array Value,v = .tuple xs∧VL g w cs xs.toList:=by
  cases h with
  | tup h1 _=>exact ⟨_,rfl,h1⟩
theorem V.map_inv {n:Nat} {v:Value} (h:V g w (.map n) v):∃b,v = .map (some b)∧g.hb[n]? = some b:=by
  cases h with
  | map h1 _=>exact ⟨_,rfl,h1⟩
theorem V.fn_inv {f:Fn} {p c:List AV} {v:Value} (h:V g w (.fn f p c) v):∃xs ys:Array Value,v = .func f xs ys∧VL g w p xs.toList∧VL g w c ys.toList:=by
  cases h with
  | fn h1 h2 _=>exact ⟨_,_,rfl,h1,h2⟩
theorem indexAt_run {t : TypeId} {x ix v : AV} {xv iv : Value} (h : indexAddr P t x ix = some v) (hx : V g w x xv) (hi : V g w ix iv) :
    ∃val,(Instr.indexAt t xv iv).run P w = .ok val w∧V g w v val:=by
  unfold indexAddr at h
  split at h
  case h_2=>cases h
  rename_i k i
  obtain rfl:=hi.sc_inv
  split at h
  · rename_i n e hu
    split at h
    case isFalse=>cases h
    rename_i hc
    obtain ⟨a,rfl,hv⟩:=hx.shift h
    exact ⟨_,by simp [Instr.indexAt,asIntOf,Sc.toV,run_underlying hu,Instr.sureAddr,hc.1,hc.2.1,run_sizeOf hc.2.2],hv⟩
  · rename_i e fl sz es hu
    split at h
    case isFalse=>cases h
    rename_i hc
    injection h with h; subst h
    have hlt:i.toNat < es.length:=by omega
    obtain ⟨a,cap,rfl,hle⟩:=hx.list_inv.resolve_right fun h=>by rw [h.2.1] at hlt; simp at hlt
    have hv:=hx.elem (List.getElem?_eq_getElem hlt)
    have hg:es.getD i.toNat .undef=es[i.toNat]:=by simp [List.getD,hlt]
    rw [hg]
    obtain ⟨h1,h2,h3,h4,h5⟩:=hc
    subst h2
    exact ⟨_,by simp [Instr.indexAt,asIntOf,Sc.toV,run_underlying hu,h4,h5,run_sizeOf h3],hv⟩
  · rename_i e r off len cap hu
    split at h
    case isFalse=>cases h
    rename_i hc
    injection h with h; subst h
    obtain ⟨b,c,rfl,hr,h1,h2⟩:=hx.row_inv
    refine ⟨_,by simp [Instr.indexAt,asIntOf,Sc.toV,run_underlying hu,hc.1,hc.2.1,run_sizeOf hc.2.2]; rfl,?_⟩
    rw [Addr.add_lit]; exact .ptr hr .nil
  · cases h
theorem part_run {t : TypeId} {cs : List AV} {xs : Array Value} {off : Nat} {v : AV} (h : partOf P t cs off = some v) (hx : VL g w cs xs.toList) (hc : ∀ c ∈ cs, c.isCell = true) :
    ∃val,(part t xs off).run P w = .ok val w∧V g w v val:=by
  unfold partOf at h
  split at h
  · rename_i ha
    split at h
    case isFalse=>cases h
    rename_i hl
    injection h with h; subst h
    refine ⟨_,by simp [part,run_aggOf ha,run_sizeOf hl.2]; rfl,.agg (fun c h=>hc c (List.mem_of_mem_drop (List.mem_of_mem_take h))) ?_ .nil⟩
    have:=(hx.drops off).takes (P.cellsOf t)
    rw [Array.toList_extract]
    simpa [List.extract,Nat.add_sub_cancel_left] using this
  · rename_i ha
    obtain ⟨u,h1,h2⟩:=hx.get h
    have h1':xs[off]? = some u:=by simpa using h1
    exact ⟨u,by simp [part,run_aggOf ha,h1'],h2⟩
  · cases h
theorem index_run {t : TypeId} {x ix v : AV} {xv iv : Value} (h : index P t x ix = some v) (hx : V g w x xv) (hi : V g w ix iv) :
    ∃val,(Instr.index t xv iv).run P w = .ok val w∧V g w v val:=by
  unfold index at h
  split at h
  case h_2=>cases h
  rename_i k i
  obtain rfl:=hi.sc_inv
  split at h
  · rename_i n e cs hu
    split at h
    case isFalse=>cases h
    rename_i hc
    obtain ⟨xs,rfl,h0,h1⟩:=hx.agg_inv
    obtain ⟨val,h2,h3⟩:=part_run h h1 h0
    exact ⟨val,by simp [Instr.index,asIntOf,Sc.toV,run_underlying hu,hc.1,hc.2.1,run_sizeOf hc.2.2,h2],h3⟩
  · rename_i l hu
    split at h
    case isFalse=>cases h
    rename_i hc
    injection h with h; subst h
    obtain rfl:=hx.sc_inv
    have hlt:i.toNat < l.length:=by omega
    refine ⟨.int .u8 (l.getD i.toNat 0).toNat,?_,.sc (.int .u8 _) .nil⟩
    have hb:(ByteArray.mk l.toArray)[i.toNat]? = some (l.getD i.toNat 0):=by
      have:i.toNat < (ByteArray.mk l.toArray).size:=by simpa [ByteArray.size] using hlt
      rw [getElem?_pos (ByteArray.mk l.toArray) i.toNat this]
      simp [List.getD,hlt,ByteArray.getElem_eq_getElem_data]
    simp [Instr.index,asIntOf,Sc.toV,run_underlying hu,hc.1,hb]
  · cases h
theorem field_run {s : TypeId} {i : Nat} {q : Field} {cs : List AV} {v : AV} {xv : Value} (hf : fieldOf P s i = some q) (hx : V g w (.agg cs) xv) (h : partOf P q.type cs q.offset = some v) :
    ∃val,(Instr.field s xv i).run P w = .ok val w∧V g w v val:=by
  obtain ⟨xs,rfl,h0,h1⟩:=hx.agg_inv
  obtain ⟨val,h2,h3⟩:=part_run h h1 h0
  refine ⟨val,?_,h3⟩
  unfold fieldOf at hf
  cases hu:P.underlying s with
  | none=>simp [hu] at hf
  | some d =>
    cases d <;> simp [hu] at hf
    simp [Instr.field,run_underlying hu,hf,asAgg,h2]
theorem extract_run {vs:List AV} {i:Nat} {v:AV} {xv:Value} (hx:V g w (.tup vs) xv) (h:vs[i]? = some v):∃val,(Instr.extract xv i).run P w = .ok val w∧V g w v val:=by
  obtain ⟨xs,rfl,h1⟩:=hx.tup_inv
  obtain ⟨u,h2,h3⟩:=h1.get h
  have h2':xs[i]? = some u:=by simpa using h2
  exact ⟨u,by simp [Instr.extract,h2'],h3⟩
theorem bound_run {x : Option AV} {xv : Option Value} {d n : Nat} (h : bound x d = some n) (hx : ∀ y, x = some y → ∃ v, xv = some v ∧ V g w y v) (hn : x = none → xv = none) :
    (x=none∧xv=none∧n=d)∨∃k i,xv=some (.int k i)∧0≤i∧n=i.toNat∧(n:Int)=i:=by
  unfold bound at h
  split at h
  · injection h with h; exact .inl ⟨rfl,hn rfl,h.symm⟩
  · rename_i k i
    split at h
    case isFalse=>cases h
    rename_i h0
    injection h with h
    obtain ⟨v,rfl,hv⟩:=hx _ rfl
    obtain rfl:=hv.sc_inv
    exact .inr ⟨k,i,rfl,h0,h.symm,by omega⟩
  · cases h
theorem sliceBound_ok {k:IntKind} {i:Int} {n y:Nat} {code:BoundsCode} (h:(n:Int)=i) (hy:n≤y):(Instr.sliceBound (.int k i) y code).run P w = .ok n w:=by
  subst h
  have h1:(0:Int)≤n∧(n:Int)≤y:=by omega
  simp [Instr.sliceBound,asIntOf,hy]
theorem bounds_ok {isSlice : Bool} {len cap a b : Nat} {lo hi : Option Value} (hl : (lo = none ∧ a = 0) ∨ ∃ k i, lo = some (.int k i) ∧ (a : Int) = i) (hh : (hi = none ∧ b = len) ∨ ∃ k i, hi = some (.int k i) ∧ (b : Int) = i) (hab : a ≤ b) (hb : b ≤ cap) :
    (Instr.sliceBounds isSlice len cap lo hi none).run P w = .ok (a,b,cap) w:=by
  rcases hl with ⟨rfl,rfl⟩ | ⟨k,i,rfl,h1⟩ <;> rcases hh with ⟨rfl,rfl⟩ | ⟨k',i',rfl,h2⟩
  · simp [Instr.sliceBounds]
  · cases isSlice <;> simp [Instr.sliceBounds,sliceBound_ok h2 hb]
  · simp [Instr.sliceBounds,sliceBound_ok h1 hab]
  · cases isSlice <;> simp [Instr.sliceBounds,sliceBound_ok h2 hb,sliceBound_ok h1 hab]
theorem bounds3_ok {len cap a b m : Nat} {lo hi mx : Option Value} (hl : (lo = none ∧ a = 0) ∨ ∃ k i, lo = some (.int k i) ∧ (a : Int) = i) (hh : ∃ k i, hi = some (.int k i) ∧ (b : Int) = i) (hm : ∃ k i, mx = some (.int k i) ∧ (m : Int) = i) (hab : a ≤ b) (hb : b ≤ m) (hmc : m ≤ cap) :
    (Instr.sliceBounds true len cap lo hi mx).run P w = .ok (a,b,m) w:=by
  obtain ⟨k',i',rfl,h2⟩:=hh
  obtain ⟨k'',i'',rfl,h3⟩:=hm
  rcases hl with ⟨rfl,rfl⟩ | ⟨k,i,rfl,h1⟩
  · simp [Instr.sliceBounds,sliceBound_ok h3 hmc,sliceBound_ok h2 hb]
  · simp [Instr.sliceBounds,sliceBound_ok h3 hmc,sliceBound_ok h2 hb,sliceBound_ok h1 hab]
theorem add_spot {a:Addr} (h:a.spot=none) (n:Nat):a.add n=⟨a.block,a.off + n,none⟩:=by
  unfold Addr.add; split
  · rename_i h0; subst h0; cases a; simp_all
  · rfl
theorem flatMap_take {sz:Nat} {es:List AV} (h:∀e∈es,e.cells.length=sz) (n:Nat):(es.take n).flatMap AV.cells=(es.flatMap AV.cells).take (n * sz):=by
  induction es generalizing n with
  | nil=>simp
  | cons e l ih =>
    cases n with
    | zero=>simp
    | succ n =>
      rw [List.take_succ_cons,List.flatMap_cons,List.flatMap_cons,ih (fun x hx=>h x (by simp [hx])),List.take_append,h e (by simp),Nat.add_mul,Nat.one_mul,Nat.add_sub_cancel,List.take_of_length_le (l:=e.cells) (by rw [h e (by simp)]; omega)]
theorem flatMap_drop {sz:Nat} {es:List AV} (h:∀e∈es,e.cells.length=sz) (n:Nat):(es.drop n).flatMap AV.cells=(es.flatMap AV.cells).drop (n * sz):=by
  induction es generalizing n with
  | nil=>simp
  | cons e l ih =>
    cases n with
    | zero=>simp
    | succ n =>
      rw [List.drop_succ_cons,List.flatMap_cons,ih (fun x hx=>h x (by simp [hx])),List.drop_append,h e (by simp),Nat.add_mul,Nat.one_mul,Nat.add_sub_cancel,List.drop_of_length_le (l:=e.cells) (by rw [h e (by simp)]; omega),List.nil_append]
theorem V.cut {fl fl' : Fl} {sz a b cap cap' len : Nat} {es : List AV} {ad ad' : Addr} (h : V g w (.list fl sz es) (.slice (some ad) len cap)) (hb : b ≤ es.length) (hab : a ≤ b) (hc : b - a ≤ cap') (hfl : fl' = .sh ∨ fl' = .full ∧ cap' = b - a)
    (had:ad'=ad.add (a * sz)∨a=b∧ad'=ad):V g w (.list fl' sz ((es.take b).drop a)) (.slice (some ad') (b - a) cap'):=by
  cases h with
  | @list _ _ _ _ _ _ xs _ _ h1 h2 h3 h4 h5 h6 h7 h8 h9 _ =>
  have hlen:((es.take b).drop a).length=b - a:=by rw [List.length_drop,List.length_take]; omega
  have h6':∀e∈es,e.cells.length=sz:=fun e he=>(h6 e he).1
  have hmem:∀{e:AV},e∈(es.take b).drop a→e∈es:=fun he=>List.mem_of_mem_take (List.mem_of_mem_drop he)
  have hvl:VL g w (((es.take b).drop a).flatMap AV.cells) ((xs.take (b * sz)).drop (a * sz)):=by
    rw [flatMap_drop (fun e he=>h6' e (List.mem_of_mem_take he)),flatMap_take h6']
    exact (h8.takes _).drops _
  have hsp:(es.take b).drop a=[]∨ad'.spot=none:=by
    rcases h5 with rfl | h5
    · exact .inl (by simp)
    rcases had with rfl | ⟨_,rfl⟩
    · rw [add_spot h5]; exact .inr rfl
    · exact .inr h5
  refine .list hfl hlen.symm hc h4 hsp (fun e he=>h6 e (hmem he)) (under_mem.2 fun e he=>(under_mem.1 h7) e (hmem he)) hvl ?_ .nil
  intro i v hi
  rw [List.getElem?_drop,List.getElem?_take] at hi
  split at hi
  case isFalse=>cases hi
  rename_i hlt
  rcases had with rfl | ⟨rfl,rfl⟩
  · rcases h5 with rfl | h5
    · have hx0:xs=[]:=List.length_eq_zero_iff.1 (by simpa using h8.length)
      rw [hx0] at hi; cases hi
    rw [add_spot h5]
    have:=h9 _ _ hi
    rwa [←Nat.add_assoc] at this
  · omega
end
end Go.AM
