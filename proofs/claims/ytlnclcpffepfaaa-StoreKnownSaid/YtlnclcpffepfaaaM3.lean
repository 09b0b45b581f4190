import Derived.Test.YtlnclcpffepfaaaM2
import Derived.Great.BuildSlice
set_option linter.unusedSimpArgs false
set_option linter.unusedVariables false
namespace Go.AM
open Go
section
variable {P:Program} {g:G} {w:World}
theorem isCell_cells {c:AV} (h:c.isCell=true):c.cells=[c]:=by
  cases c <;> simp_all [AV.cells,AV.isCell]
theorem flatMap_cells {cs:List AV} (h:∀c∈cs,c.isCell=true):cs.flatMap AV.cells=cs:=by
  induction cs with
  | nil=>rfl
  | cons c l ih=>rw [List.flatMap_cons,isCell_cells (h c (by simp)),ih fun x hx=>h x (by simp [hx])]; rfl
theorem low_run {x : Option AV} {xv : Option Value} {d n : Nat} (h : bound x d = some n) (hx : ∀ y, x = some y → ∃ v, xv = some v ∧ V g w y v) (hn : x = none → xv = none) :
    (xv=none∧n=d)∨∃k i,xv=some (.int k i)∧(n:Int)=i:=by
  rcases bound_run h hx hn with ⟨_,h1,h2⟩ | ⟨k,i,h1,_,_,h2⟩
  · exact .inl ⟨h1,h2⟩
  · exact .inr ⟨k,i,h1,h2⟩
theorem bound_some {x:AV} {n:Nat} {xv:Option Value} (h:bound (some x) 0=some n) (hx:∀y,some x=some y→∃v,xv=some v∧V g w y v):∃k i,xv=some (.int k i)∧(n:Int)=i:=by
  rcases low_run h hx (by simp) with ⟨h1,_⟩ | h
  · obtain ⟨v,hv,_⟩:=hx x rfl; rw [hv] at h1; cases h1
  · exact h
theorem sliceOf_run {t : TypeId} {x v : AV} {lo hi mx : Option AV} {xv : Value} {lov hiv mxv : Option Value} (h : sliceOf P t x lo hi mx = some v) (hx : V g w x xv)
    (hlo:∀y,lo=some y→∃v,lov=some v∧V g w y v) (hlo':lo=none→lov=none) (hhi:∀y,hi=some y→∃v,hiv=some v∧V g w y v) (hhi':hi=none→hiv=none)
    (hmx:∀y,mx=some y→∃v,mxv=some v∧V g w y v) (hmx':mx=none→mxv=none) :
    ∃val,(Instr.sliceAt t xv lov hiv mxv).run P w = .ok val w∧V g w v val:=by
  unfold sliceOf at h
  split at h
  · -- a string
    rename_i l hu
    split at h
    · rename_i a b ha hb
      split at h
      case isFalse=>cases h
      rename_i hc
      injection h with h; subst h
      obtain rfl:=hmx' rfl
      obtain rfl:=hx.sc_inv
      refine ⟨_,?_,.sc (.str _) .nil⟩
      have hs:(ByteArray.mk l.toArray).size=l.length:=by simp [ByteArray.size]
      have:=bounds_ok (P:=P) (w:=w) (isSlice:=false) (len:=(ByteArray.mk l.toArray).size) (cap:=(ByteArray.mk l.toArray).size) (low_run ha hlo hlo') (by rw [hs]; exact low_run hb hhi hhi') hc.1 (by rw [hs]; exact hc.2)
      simp only [Instr.sliceAt,Sem.run_bind,run_underlying hu,Result.andThen_ok,Instr.slice,Sc.toV]
      simp only [Option.isSome_none,Bool.false_eq_true,if_false,Sem.run_bind,this,Result.andThen_ok]
      simp
      congr 1
      apply ByteArray.ext
      simp [List.extract]
      rw [List.drop_take]
    · cases h
  · -- nil
    rename_i e hu
    split at h
    · rename_i ha hb
      split at h
      case isFalse=>cases h
      rename_i hc
      injection h with h; subst h
      obtain rfl:=hmx' rfl
      obtain rfl:=hx.sc_inv
      have:=bounds_ok (P:=P) (w:=w) (isSlice:=true) (len:=0) (cap:=0) (low_run ha hlo hlo') (low_run hb hhi hhi') (Nat.le_refl _) (Nat.le_refl _)
      refine ⟨.slice none 0 0,?_,.sc .nilS .nil⟩
      simp [Instr.sliceAt,run_underlying hu,Instr.slice,Sc.toV,this,run_sizeOf hc]
    · cases h
  · -- a list
    rename_i e fl sz es hu
    split at h
    · cases h
    split at h
    · rename_i a b ha hb
      split at h
      case isFalse=>cases h
      rename_i hc
      injection h with h; subst h
      obtain rfl:=hmx' rfl
      have h0:P.cellsOf e≠0:=by
        have:=hx.list_pos
        omega
      rcases hx.list_inv with ⟨ad,cap,rfl,hle⟩ | ⟨rfl,rfl,rfl⟩
      rotate_left
      · obtain ⟨hc1,hc2,hc3⟩:=hc
        have hb0:b=0:=by simpa using hc2
        have ha0:a=0:=by omega
        subst hb0; subst ha0
        have:=bounds_ok (P:=P) (w:=w) (isSlice:=true) (len:=0) (cap:=0) (low_run ha hlo hlo') (low_run hb hhi hhi') (Nat.le_refl _) (Nat.le_refl _)
        refine ⟨.slice none 0 0,?_,?_⟩
        · simp [Instr.sliceAt,run_underlying hu,Instr.slice,this,run_sizeOf h0]
        · simpa using hx
      have hfull:fl = .full→cap=es.length:=by
        rintro rfl
        cases hx with
        | list h1 h2 _ _ _ _ _ _ _ _=>rcases h1 with h1 | ⟨_,h1⟩ <;> simp_all
      have:=bounds_ok (P:=P) (w:=w) (isSlice:=true) (len:=es.length) (cap:=cap) (low_run ha hlo hlo') (low_run hb hhi hhi') hc.1 (Nat.le_trans hc.2.1 hle)
      refine ⟨.slice (some (if cap=a then ad else ad.add (a * P.cellsOf e))) (b - a) (cap - a),?_,?_⟩
      · simp [Instr.sliceAt,run_underlying hu,Instr.slice,this,run_sizeOf h0]
        split <;> rfl
      · obtain ⟨hc1,hc2,hc3⟩:=hc
        subst hc3
        refine hx.cut hc2 hc1 (by omega) ?_ ?_
        · split
          · rename_i hf; exact .inr ⟨rfl,by rw [hfull hf.1,hf.2]⟩
          · exact .inl rfl
        · split
          · exact .inr ⟨by omega,rfl⟩
          · exact .inl rfl
    · rename_i m a b ha hb
      split at h
      · rename_i hi' m' hm
        split at h
        case isFalse=>cases h
        rename_i hc
        injection h with h; subst h
        have h0:P.cellsOf e≠0:=by
          have:=hx.list_pos
          omega
        obtain ⟨hc1,hc2,hc3,hc4⟩:=hc
        have hbb:∃k i,hiv=some (.int k i)∧(b:Int)=i:=by
          rcases low_run hb hhi hhi' with ⟨h1,_⟩ | h
          · obtain ⟨v,hv,_⟩:=hhi _ rfl; rw [hv] at h1; cases h1
          · exact h
        have hmm:=bound_some hm hmx
        have hms:mxv.isSome=true:=by obtain ⟨k,i,h,_⟩:=hmm; rw [h]; rfl
        rcases hx.list_inv with ⟨ad,cap,rfl,hle⟩ | ⟨rfl,rfl,rfl⟩
        rotate_left
        · have hm0:m'=0:=by simpa using hc3
          have hb0:b=0:=by omega
          have ha0:a=0:=by omega
          subst hm0; subst hb0; subst ha0
          have:=bounds3_ok (P:=P) (w:=w) (len:=0) (cap:=0) (low_run ha hlo hlo') hbb hmm (Nat.le_refl _) (Nat.le_refl _) (Nat.le_refl _)
          refine ⟨.slice none 0 0,?_,?_⟩
          · simp [Instr.sliceAt,run_underlying hu,Instr.slice,this,run_sizeOf h0]
          · simpa using hx
        have:=bounds3_ok (P:=P) (w:=w) (len:=es.length) (cap:=cap) (low_run ha hlo hlo') hbb hmm hc1 (Nat.le_of_eq hc2) (Nat.le_trans hc3 hle)
        refine ⟨.slice (some (if m'=a then ad else ad.add (a * P.cellsOf e))) (b - a) (m' - a),?_,?_⟩
        · simp [Instr.sliceAt,run_underlying hu,Instr.slice,this,run_sizeOf h0]
          split <;> rfl
        · subst hc4
          have hfl:∀{c:Prop} [Decidable c],(if c then Fl.sh else Fl.full) = .sh∨(if c then Fl.sh else Fl.full) = .full∧m' - a=b - a:=fun {c} _=>by
            by_cases h:c
            · rw [if_pos h]; exact .inl rfl
            · rw [if_neg h]; exact .inr ⟨rfl,by omega⟩
          refine hx.cut (by omega) hc1 (by omega) hfl ?_
          split
          · exact .inr ⟨by omega,rfl⟩
          · exact .inl rfl
      · cases h
    · cases h
  · -- a row
    rename_i e r off len cap hu
    split at h
    · rename_i a b ha hb
      split at h
      case isFalse=>cases h
      rename_i hc
      injection h with h; subst h
      obtain rfl:=hmx' rfl
      obtain ⟨bl,c,rfl,hr,h1,h2⟩:=hx.row_inv
      have:=bounds_ok (P:=P) (w:=w) (isSlice:=true) (len:=len) (cap:=c) (low_run ha hlo hlo') (low_run hb hhi hhi') hc.1 (by omega)
      refine ⟨.slice (some ⟨bl,off + a * P.cellsOf e,none⟩) (b - a) (c - a),?_,.row hr (by omega) (by omega) .nil⟩
      have hne:¬c=a:=by omega
      simp [Instr.sliceAt,run_underlying hu,Instr.slice,this,run_sizeOf hc.2.2.2,hne,Addr.add_lit]
    · rename_i m a b ha hb
      split at h
      · rename_i hi' m' hm
        split at h
        case isFalse=>cases h
        rename_i hc
        injection h with h; subst h
        obtain ⟨bl,c,rfl,hr,h1,h2⟩:=hx.row_inv
        obtain ⟨hc1,hc2,hc3,hc4⟩:=hc
        have hbb:∃k i,hiv=some (.int k i)∧(b:Int)=i:=by
          rcases low_run hb hhi hhi' with ⟨h1,_⟩ | h
          · obtain ⟨v,hv,_⟩:=hhi _ rfl; rw [hv] at h1; cases h1
          · exact h
        have hmm:=bound_some hm hmx
        have:=bounds3_ok (P:=P) (w:=w) (len:=len) (cap:=c) (low_run ha hlo hlo') hbb hmm (Nat.le_of_eq hc1) (Nat.le_of_eq hc2) (by omega)
        refine ⟨.slice (some ⟨bl,off,none⟩) (b - a) (m' - a),?_,?_⟩
        · have hne:m'=a:=by omega
          simp [Instr.sliceAt,run_underlying hu,Instr.slice,this,run_sizeOf hc4,hne]
        · have e1:b - a=0:=by omega
          have e2:m' - a=0:=by omega
          rw [e1,e2]
          exact .list (xs:=[]) (.inr ⟨rfl,rfl⟩) rfl (Nat.le_refl _) (by omega) (.inr rfl) (fun _ h=>by cases h) rfl .nil (fun i v hi=>by simp at hi) .nil
      · cases h
    · cases h
  · -- an array behind a pointer
    rename_i n e r off hu
    split at h
    · rename_i a b ha hb
      split at h
      case isFalse=>cases h
      rename_i hc
      injection h with h; subst h
      obtain rfl:=hmx' rfl
      obtain ⟨bl,rfl,hr⟩:=hx.ptr_inv
      have:=bounds_ok (P:=P) (w:=w) (isSlice:=false) (len:=n) (cap:=n) (low_run ha hlo hlo') (low_run hb hhi hhi') hc.1 hc.2.1
      refine ⟨.slice (some ⟨bl,off + a * P.cellsOf e,none⟩) (b - a) (n - a),?_,.row hr (by omega) (Nat.le_refl _) .nil⟩
      have hne:¬n=a:=by omega
      simp [Instr.sliceAt,run_underlying hu,Instr.sureAddr,this,run_sizeOf hc.2.2.2,hne,Addr.add_lit]
    · cases h
  · -- an array in a list
    rename_i n e cs hu
    split at h
    · rename_i a b ha hb
      split at h
      case isFalse=>cases h
      rename_i hc
      injection h with h; subst h
      obtain rfl:=hmx' rfl
      obtain ⟨ad,rfl⟩:=hx.rop_inv
      have:=bounds_ok (P:=P) (w:=w) (isSlice:=false) (len:=n) (cap:=n) (low_run ha hlo hlo') (low_run hb hhi hhi') hc.1 hc.2.1
      refine ⟨.slice (some (ad.add a)) (b - a) (n - a),?_,?_⟩
      · have hne:¬n=a:=by omega
        have h1:P.cellsOf e≠0:=by omega
        simp [Instr.sliceAt,run_underlying hu,Instr.sureAddr,this,run_sizeOf h1,hne,hc.2.2.2.1]
      · have hd:=V.rop_drop (n:=a) hx
        cases hd with
        | @rop _ _ xs _ _ h1 h2 h3 h4 h5 _ =>
        have hel:(cs.take b).drop a=(cs.drop a).take (b - a):=by rw [List.drop_take]
        rw [hel]
        have hsub:∀c∈(cs.drop a).take (b - a),c.isCell=true:=fun c hc=>h2 c (List.mem_of_mem_take hc)
        refine .list (xs:=xs.take (b - a)) (.inl rfl) (by rw [List.length_take,List.length_drop]; omega) (by omega) (Nat.one_pos) (.inr h1) (fun c hc => ?_) (under_mem.2 fun c hc=>(under_mem.1 h3) c (List.mem_of_mem_take hc)) (by rw [flatMap_cells hsub]; exact h4.takes _) (fun i v hi => ?_) .nil
        · rw [isCell_cells (hsub c hc)]; exact ⟨rfl,fun x hx=>by simp at hx; subst hx; exact hsub _ hc⟩
        · rw [List.getElem?_take] at hi
          split at hi
          · exact h5 i v hi
          · cases hi
    · cases h
  · cases h
end
end Go.AM
namespace Go.AM
open Go
section
variable {P:Program} {g:G} {w:World} {ow:Own} {σ:St}
theorem ofVs_V:∀{vs:List Value} {cs:List AV},Sc.ofVs vs=some cs→VL g w cs vs∧(∀c∈cs,c.isCell=true)∧AV.under.go 0 cs=true
  | [],cs,h=>by simp [Sc.ofVs] at h; subst h; exact ⟨.nil,by simp,rfl⟩
  | v :: vs,cs,h=>by
    simp only [Sc.ofVs] at h
    split at h
    · rename_i x l h1 h2
      injection h with h; subst h
      obtain ⟨k1,k2,k3⟩:=ofVs_V h2
      refine ⟨?_,?_,?_⟩
      · rw [←Sc.toV_ofV h1]; exact .sc x k1
      · intro c hc
        rcases List.mem_cons.1 hc with rfl | hc
        · rfl
        · exact k2 c hc
      · simp [AV.under.go,AV.under,k3]
    · cases h
theorem ofPlain_V {v:Value} {z:AV} (h:AV.ofPlain v=some z):V g w z v∧VL g w z.cells v.cells.toList∧(∀c∈z.cells,c.isCell=true)∧AV.under.go 0 z.cells=true∧AV.under 0 z=true∧z.common=true:=by
  unfold AV.ofPlain at h
  split at h
  · rename_i cs
    cases h1:Sc.ofVs cs.toList with
    | none=>simp [h1] at h
    | some l =>
      simp [h1] at h; subst h
      obtain ⟨k1,k2,k3⟩:=ofVs_V (g:=g) (w:=w) h1
      exact ⟨.agg k2 k1 .nil,k1,k2,k3,by simpa [AV.under] using k3,rfl⟩
  · rename_i hne
    cases h1:Sc.ofV v with
    | none=>simp [h1] at h
    | some x =>
      simp [h1] at h; subst h
      have hv:=Sc.toV_ofV h1
      have hc:v.cells = #[v]:=by
        cases v with
        | agg cs=>exact (hne cs rfl).elim
        | _=>rfl
      have hV:V g w (.s x) v:=by rw [←hv]; exact .sc x .nil
      exact ⟨hV,by rw [hc]; exact hV,by intro c hc; simp [AV.cells] at hc; subst hc; rfl,rfl,rfl,rfl⟩
theorem scalars_eq:∀{cs:List AV} {vs ls:List Value},VL g w cs vs→scalars cs=some ls→vs=ls
  | [],vs,ls,h,hs=>by simp [scalars] at hs; subst hs; exact h.nil_left
  | c :: cs,vs,ls,h,hs=>by
    obtain ⟨v,vs',rfl,h1,h2⟩:=h.cons_left
    cases c with
    | s x =>
      simp only [scalars] at hs
      cases hl:scalars cs with
      | none=>simp [hl] at hs
      | some l =>
        simp [hl] at hs; subst hs
        rw [h1.sc_inv,scalars_eq h2 hl]
    | _=>simp [scalars] at hs
theorem toV_eq {x:AV} {v a:Value} (h:V g w x v) (hx:x.toV=some a):v=a:=by
  cases x with
  | s x=>simp [AV.toV] at hx; subst hx; exact h.sc_inv
  | agg cs =>
    obtain ⟨xs,rfl,_,h1⟩:=h.agg_inv
    simp only [AV.toV] at hx
    cases hl:scalars cs with
    | none=>simp [hl] at hx
    | some l =>
      simp [hl] at hx; subst hx
      rw [←scalars_eq h1 hl]
  | _=>simp [AV.toV] at hx
theorem PV.toV {o:Nat→Nat→Prop} {x:AV} {v a:Value} (h:PV g w o x v) (hx:x.toV=some a):v=a:=by
  refine toV_eq (h.plain ?_) hx
  cases x with
  | list fl sz es=>simp [AV.toV] at hx
  | _=>rfl
theorem refKind_value {o : Nat → Nat → Prop} {x : AV} {v : Value} {k : Nat} (h : PV g w o x v) (hk : x.refKind = some k) :
    (k=0∧∃a,v = .pointer (some a))∨(k=1∧∃a n c,v = .slice (some a) n c)∨(k=2∧∃b,v = .map (some b))∨(k=3∧∃f xs ys,v = .func f xs ys):=by
  have hlist:∀fl sz es,x = .list fl sz es→(fl = .sh→es≠[])∧k=1:=by
    rintro fl sz es rfl
    cases fl <;> cases es <;> simp [AV.refKind] at hk ⊢ <;> omega
  cases x <;> first | (simp only [AV.refKind] at hk; injection hk with hk; subst hk) | (simp [AV.refKind] at hk; done) | skip
  case ptr r off=>obtain ⟨b,rfl,_⟩:=V.ptr_inv h; exact .inl ⟨rfl,_,rfl⟩
  case rop cs=>obtain ⟨a,rfl⟩:=V.rop_inv h; exact .inl ⟨rfl,_,rfl⟩
  case list fl sz es =>
    obtain ⟨hne,hk1⟩:=hlist _ _ _ rfl
    refine .inr (.inl ⟨hk1,?_⟩)
    cases fl with
    | own=>obtain ⟨_,a,n,c,rfl,_⟩:=h; exact ⟨_,_,_,rfl⟩
    | uniq=>obtain ⟨a,c,xs,u⟩:=h; exact ⟨_,_,_,u.val⟩
    | sh =>
      rcases V.list_inv h with ⟨a,c,rfl,_⟩ | ⟨_,h2,_⟩
      · exact ⟨_,_,_,rfl⟩
      · exact (hne rfl h2).elim
    | full =>
      rcases V.list_inv h with ⟨a,c,rfl,_⟩ | ⟨h,_⟩
      · exact ⟨_,_,_,rfl⟩
      · cases h
  case row r off len cap=>obtain ⟨b,c,rfl,_⟩:=V.row_inv h; exact .inr (.inl ⟨rfl,_,_,_,rfl⟩)
  case map n=>obtain ⟨b,rfl,_⟩:=V.map_inv h; exact .inr (.inr (.inl ⟨rfl,_,rfl⟩))
  case fn f p c=>obtain ⟨xs,ys,rfl,_⟩:=V.fn_inv h; exact .inr (.inr (.inr ⟨rfl,_,_,_,rfl⟩))
theorem nilKind_value {o : Nat → Nat → Prop} {x : AV} {v : Value} {k : Nat} (h : PV g w o x v) (hk : x.nilKind = some k) :
    (k=0∧v = .pointer none)∨(k=1∧v = .slice none 0 0)∨(k=2∧v = .map none)∨(k=3∧v = .nilFunc):=by
  cases x <;> simp only [AV.nilKind] at hk <;> try (cases hk; done)
  rename_i y
  have hv:=V.sc_inv h
  cases y <;> simp at hk <;> subst hk <;> subst hv <;> simp [Sc.toV]
theorem equal_of {t:TypeId} {x y:Value} {b:Bool} (h:∀d,(Op.equalIn (d + 1) t x y).run P w = .ok b w):(Op.equal t x y).run P w = .ok b w:=h 9999
theorem eqGuard_quiet {a b:Value} (h1:∀c,a≠.agg c) (h2:a≠.nilIface) (op:BinOp) (t:TypeId) (xo yo:Operand):(eqGuard op t xo yo a b).run P w = .ok () w:=by
  unfold eqGuard
  cases op <;> cases a <;> first | rfl | (exact (h1 _ rfl).elim) | (exact (h2 rfl).elim)
theorem cmp_of {t : TypeId} {x y : Value} (h : (Op.equal t x y).run P w = .ok false w) (h1 : Go.binOp .eql t x y = do pure (.bool (← Op.equal t x y))) (h2 : Go.binOp .neq t x y = do pure (.bool (!(← Op.equal t x y)))) :
    (Go.binOp .eql t x y).run P w = .ok (.bool false) w∧(Go.binOp .neq t x y).run P w = .ok (.bool true) w:=by
  rw [h1,h2]
  constructor <;> simp [h]
theorem oneNil_run {t : TypeId} {x y : AV} {xv yv : Value} {o o' : Nat → Nat → Prop} (h : oneNil P t x y = true) (hx : PV g w o x xv) (hy : PV g w o' y yv) :
    (∀op xo yo,(eqGuard op t xo yo xv yv).run P w = .ok () w)∧(Go.binOp .eql t xv yv).run P w = .ok (.bool false) w∧(Go.binOp .neq t xv yv).run P w = .ok (.bool true) w:=by
  unfold oneNil at h
  split at h
  case h_2=>cases h
  rename_i k ht
  have hu:(k=0∧∃e,P.underlying t=some (.pointer e))∨(k=1∧∃e,P.underlying t=some (.slice e))∨(k=2∧∃a b,P.underlying t=some (.map a b))∨(k=3∧∃a b c,P.underlying t=some (.func a b c)):=by
    unfold typeKind at ht
    split at ht <;> simp at ht <;> subst ht <;> simp_all
  simp only [Bool.or_eq_true,Bool.and_eq_true,beq_iff_eq] at h
  rcases h with ⟨h1,h2⟩ | ⟨h1,h2⟩
  · rcases hu with ⟨rfl,e,hu⟩ | ⟨rfl,e,hu⟩ | ⟨rfl,e,e',hu⟩ | ⟨rfl,e,e',e'',hu⟩ <;>
    rcases refKind_value hx h1 with ⟨h3,a,rfl⟩ | ⟨h3,a,n,c,rfl⟩ | ⟨h3,b,rfl⟩ | ⟨h3,f,xs,ys,rfl⟩ <;> try (cases h3; done)
    all_goals (rcases nilKind_value hy h2 with ⟨h4,rfl⟩ | ⟨h4,rfl⟩ | ⟨h4,rfl⟩ | ⟨h4,rfl⟩ <;> try (cases h4; done))
    all_goals exact ⟨fun op xo yo=>eqGuard_quiet (by simp) (by simp) op t xo yo,cmp_of (equal_of fun d=>by simp only [Op.equalIn,Sem.run_bind,run_underlying hu,Result.andThen_ok]; rfl) rfl rfl⟩
  · rcases hu with ⟨rfl,e,hu⟩ | ⟨rfl,e,hu⟩ | ⟨rfl,e,e',hu⟩ | ⟨rfl,e,e',e'',hu⟩ <;>
    rcases refKind_value hy h2 with ⟨h3,a,rfl⟩ | ⟨h3,a,n,c,rfl⟩ | ⟨h3,b,rfl⟩ | ⟨h3,f,xs,ys,rfl⟩ <;> try (cases h3; done)
    all_goals (rcases nilKind_value hx h1 with ⟨h4,rfl⟩ | ⟨h4,rfl⟩ | ⟨h4,rfl⟩ | ⟨h4,rfl⟩ <;> try (cases h4; done))
    all_goals exact ⟨fun op xo yo=>eqGuard_quiet (by simp) (by simp) op t xo yo,cmp_of (equal_of fun d=>by simp only [Op.equalIn,Sem.run_bind,run_underlying hu,Result.andThen_ok]; rfl) rfl rfl⟩
theorem binOp_run {op : BinOp} {t : TypeId} {xo yo : Operand} {x y v : AV} {xv yv : Value} {o o' : Nat → Nat → Prop} (h : AM.binOp P op t xo yo x y = some v) (hx : PV g w o x xv) (hy : PV g w o' y yv) :
    ∃val,(do eqGuard op t xo yo xv yv; Go.binOp op t xv yv:Sem Value).run P w = .ok val w∧V g w v val:=by
  unfold AM.binOp at h
  split at h
  · rename_i a b ha hb
    obtain rfl:=hx.toV ha
    obtain rfl:=hy.toV hb
    cases hv:val P (do eqGuard op t xo yo xv yv; Go.binOp op t xv yv) with
    | none=>rw [hv] at h; cases h
    | some z =>
      rw [hv] at h
      exact ⟨z,val_run hv w,(ofPlain_V h).1⟩
  · -- a value against nil
    split at h
    case isFalse=>cases h
    rename_i hn
    have hq:=oneNil_run (P:=P) hn hx hy
    split at h
    · injection h with h; subst h
      exact ⟨.bool false,by simp [hq.1 .eql xo yo,hq.2.1],.sc (.bool false) .nil⟩
    · injection h with h; subst h
      exact ⟨.bool true,by simp [hq.1 .neq xo yo,hq.2.2],.sc (.bool true) .nil⟩
    · cases h
theorem unOp_run {op:UnOp} {x v:AV} {xv:Value} {o:Nat→Nat→Prop} (h:unOp P op x=some v) (hx:PV g w o x xv):∃val,(Op.unary op xv).run P w = .ok val w∧V g w v val:=by
  unfold unOp at h
  split at h
  case h_2=>cases h
  rename_i y
  obtain rfl:=V.sc_inv hx
  cases hv:val P (Op.unary op y.toV) with
  | none=>rw [hv] at h; cases h
  | some z=>rw [hv] at h; exact ⟨z,val_run hv w,(ofPlain_V h).1⟩
theorem V_len_slice {o:Nat→Nat→Prop} {fl:Fl} {sz:Nat} {es:List AV} {v:Value} (h:PV g w o (.list fl sz es) v):∃a cap,v = .slice a es.length cap∧es.length≤cap∧(fl = .full→cap=es.length)∧0 < sz∧(a=none→fl = .sh∧es=[]∧cap=0):=by
  have key:∀{fl:Fl} {v:Value},V g w (.list fl sz es) v→∃a cap,v = .slice a es.length cap∧es.length≤cap∧(fl = .full→cap=es.length)∧0 < sz∧(a=none→fl = .sh∧es=[]∧cap=0):=by
    intro fl v h
    cases h with
    | @list _ _ _ a len cap _ _ _ h1 h2 h3 h4 h5 h6 h7 h8 h9 _ =>
      subst h2
      refine ⟨_,_,rfl,h3,fun hf => ?_,h4,fun h=>by cases h⟩
      rcases h1 with h1 | ⟨_,h1⟩
      · rw [hf] at h1; cases h1
      · exact h1
    | lnil h0 _=>exact ⟨none,0,rfl,Nat.le_refl _,fun h=>(by cases h),h0,fun _=>⟨rfl,rfl,rfl⟩⟩
  cases fl with
  | own =>
    obtain ⟨h1,a',len',cap',e',_⟩:=h
    obtain ⟨a,cap,e,h2,_,h3,h4⟩:=key h1
    refine ⟨a,cap,e,h2,fun h=>(by cases h),h3,fun ha => ?_⟩
    rw [e,ha] at e'; cases e'
  | uniq=>obtain ⟨a,c,xs,u⟩:=h; exact ⟨some a,c,u.val,u.le,fun h=>(by cases h),u.pos,fun h=>by cases h⟩
  | sh=>exact key h
  | full=>exact key h
theorem lenOf_run {t:TypeId} {x:AV} {xv:Value} {o:Nat→Nat→Prop} {n:Nat} {ty:TypeId} (s:SS g w ow σ) (h:lenOf P t x σ=some n) (hx:PV g w o x xv):(Builtin.len_ #[t] ty #[xv]).run P w = .ok (goInt n) w:=by
  unfold lenOf at h
  split at h <;> try (injection h with h; subst h)
  · rename_i l hu; obtain rfl:=V.sc_inv hx; have hs:(ByteArray.mk l.toArray).size=l.length:=by simp [ByteArray.size]
    simp [Builtin.len_,run_underlying hu,Sc.toV,hs]
  · rename_i e hu; obtain rfl:=V.sc_inv hx; simp [Builtin.len_,run_underlying hu,Sc.toV]
  · rename_i e fl sz es hu
    obtain ⟨a,cap,rfl,_⟩:=V_len_slice hx
    simp [Builtin.len_,run_underlying hu]
  · rename_i e r off len cap hu
    obtain ⟨b,c,rfl,_⟩:=V.row_inv hx
    simp [Builtin.len_,run_underlying hu]
  · rename_i e n hu
    cases (show V g w (.lenv n) xv from hx) with
    | lenv _=>simp [Builtin.len_,run_underlying hu]
  · rename_i k e hu; obtain rfl:=V.sc_inv hx; simp [Builtin.len_,run_underlying hu,Sc.toV]
  · rename_i k e m hu
    split at h
    · rename_i es c hm
      injection h with h; subst h
      obtain ⟨b,xs,h1,h2⟩:=s.maps _ _ _ hm
      obtain ⟨b',rfl,h3⟩:=V.map_inv hx
      rw [h1] at h3; injection h3 with h3; subst h3
      simp [Builtin.len_,run_underlying hu,getObj,Sem.run,h2.obj,h2.size]
    · cases h
  · rename_i m e cs hu
    obtain ⟨xs,rfl,_⟩:=V.agg_inv hx
    simp [Builtin.len_,run_underlying hu]
  · cases h
theorem capOf_run {t:TypeId} {x:AV} {xv:Value} {o:Nat→Nat→Prop} {n:Nat} {ty:TypeId} (h:capOf P t x=some n) (hx:PV g w o x xv):(Builtin.cap_ #[t] ty #[xv]).run P w = .ok (goInt n) w:=by
  unfold capOf at h
  split at h <;> try (injection h with h; subst h)
  · rename_i e hu; obtain rfl:=V.sc_inv hx; simp [Builtin.cap_,run_underlying hu,Sc.toV]
  · rename_i e sz es hu
    obtain ⟨a,cap,rfl,_,h1,_⟩:=V_len_slice hx
    simp [Builtin.cap_,run_underlying hu,h1 rfl]
  · cases h
theorem foldl_set (off : Nat) : ∀ (vs : List Value) (k : Nat) (cells : Array Value), off + k + vs.length ≤ cells.size →
    ((vs.zipIdx k).foldl (fun cs (p:Value×Nat)=>cs.setIfInBounds (off + p.2) p.1) cells).size=cells.size ∧
    ∀(i:Nat),((vs.zipIdx k).foldl (fun cs (p:Value×Nat)=>cs.setIfInBounds (off + p.2) p.1) cells)[i]? = if off + k≤i∧i < off + k + vs.length then vs[i - (off + k)]? else cells[i]?
  | [],k,cells,_=>⟨rfl,fun i=>by simp; intro h1 h2; omega⟩
  | v :: vs,k,cells,h=>by
    simp only [List.length_cons] at h
    obtain ⟨h1,h2⟩:=foldl_set off vs (k + 1) (cells.setIfInBounds (off + k) v) (by simp; omega)
    simp only [List.zipIdx_cons,List.foldl_cons]
    refine ⟨by rw [h1]; simp,fun i => ?_⟩
    rw [h2 i]
    by_cases e:i=off + k
    · subst e
      rw [if_neg (by omega),if_pos (by simp),Nat.sub_self,Array.getElem?_setIfInBounds_self_of_lt (by omega)]; rfl
    · by_cases h4:off + (k + 1)≤i∧i < off + (k + 1) + vs.length
      · rw [if_pos h4,if_pos (by simp only [List.length_cons]; omega),show i - (off + k)=(i - (off + (k + 1))) + 1 by omega,List.getElem?_cons_succ]
      · rw [if_neg h4,if_neg (by simp only [List.length_cons]; omega),Array.getElem?_setIfInBounds_ne (Ne.symm e)]
theorem V.cells {x:AV} {v:Value} (h:V g w x v) (hf:x.fit=true):VL g w x.cells v.cells.toList∧∀c∈x.cells,c.isCell=true:=by
  have one:(∀cs,v≠.agg cs)→x.cells=[x]→x.isCell=true→VL g w x.cells v.cells.toList∧∀c∈x.cells,c.isCell=true:=by
    intro h1 h2 h3
    have hv:v.cells = #[v]:=by cases v <;> first | rfl | exact (h1 _ rfl).elim
    rw [h2,hv]
    exact ⟨h,fun c hc=>by simp at hc; subst hc; exact h3⟩
  cases x with
  | agg cs=>obtain ⟨xs,rfl,h0,h1⟩:=h.agg_inv; exact ⟨h1,h0⟩
  | undef=>simp [AV.fit] at hf
  | tup vs=>simp [AV.fit] at hf
  | s y=>obtain rfl:=h.sc_inv; exact one (fun cs=>by cases y <;> simp [Sc.toV]) rfl rfl
  | list fl sz es =>
    obtain ⟨a,cap,rfl,_⟩:=V_len_slice (o:=fun _ _=>False) (PV.of h)
    exact one (by simp) rfl (by cases fl <;> first | rfl | (cases h with | list h1=>simp at h1))
  | rop cs=>obtain ⟨a,rfl⟩:=h.rop_inv; exact one (by simp) rfl rfl
  | ptr r off=>obtain ⟨b,rfl,_⟩:=h.ptr_inv; exact one (by simp) rfl rfl
  | row r off len cap=>obtain ⟨b,c,rfl,_⟩:=h.row_inv; exact one (by simp) rfl rfl
  | map n=>obtain ⟨b,rfl,_⟩:=h.map_inv; exact one (by simp) rfl rfl
  | fn f p c=>obtain ⟨xs,ys,rfl,_⟩:=h.fn_inv; exact one (by simp) rfl rfl
  | yield n =>
    have:∃b,v = .func (.yield b) #[] #[]:=by cases h with | yield _ _=>exact ⟨_,rfl⟩
    obtain ⟨b,rfl⟩:=this; exact one (by simp) rfl rfl
  | lenv n=>cases h with | lenv _=>exact one (by simp) rfl rfl
theorem fill_run (place : Nat → Option (Nat × Nat)) : ∀ (parts : List (Nat × AV)) (vparts : List (Nat × Value)) (cs cs' : List AV) (xs : Array Value),
    fillA place cs parts=some cs'→parts.length=vparts.length→(∀(j:Nat) p q,parts[j]? = some p→vparts[j]? = some q→p.1=q.1∧V g w p.2 q.2)→VL g w cs xs.toList→(∀c∈cs,c.isCell=true) →
    ∃xs',Instr.fill place xs vparts=some xs'∧VL g w cs' xs'.toList∧(∀c∈cs',c.isCell=true)
  | [],vparts,cs,cs',xs,h,hl,hp,hx,hc=>by
    simp only [fillA] at h; injection h with h; subst h
    have:vparts=[]:=by cases vparts with | nil=>rfl | cons _ _=>simp at hl
    subst this
    exact ⟨xs,rfl,hx,hc⟩
  | (i,v) :: rest,[],cs,cs',xs,h,hl,hp,hx,hc=>by simp at hl
  | (i,v) :: rest,(i',u) :: vrest,cs,cs',xs,h,hl,hp,hx,hc=>by
    obtain ⟨e1,hv⟩:=hp 0 _ _ rfl rfl
    dsimp only at e1 hv
    subst e1
    simp only [fillA] at h
    split at h
    · cases h
    rename_i off size hpl
    split at h
    · cases h
    rename_i hcond
    simp only [not_or,Decidable.not_not,Bool.not_eq_true'] at hcond
    obtain ⟨h1,h2,h3⟩:=hcond
    have hf:v.fit=true:=by simpa using h3
    obtain ⟨k1,k2⟩:=hv.cells hf
    have hus:u.cells.size=size:=by have:=k1.length; simp at this; omega
    have hxs:xs.size=cs.length:=by have:=hx.length; simpa using this
    obtain ⟨m1,m2⟩:=foldl_set off u.cells.toList 0 xs (by simp; omega)
    simp only [Nat.add_zero,Array.length_toList,hus] at m1 m2
    let xs2:=u.cells.toList.zipIdx.foldl (fun cs (p:Value×Nat)=>cs.setIfInBounds (off + p.2) p.1) xs
    have hlen:(cs.take off ++ v.cells ++ cs.drop (off + size)).length=cs.length:=by simp; omega
    have hvl:VL g w (cs.take off ++ v.cells ++ cs.drop (off + size)) xs2.toList:=by
      refine VL.of_get (by rw [hlen,Array.length_toList]; exact m1.trans hxs) fun j c hj => ?_
      have hm:=m2 j
      have h2':xs2.toList[j]? = if off≤j∧j < off + size then u.cells.toList[j - off]? else xs[j]? := by rw [Array.getElem?_toList]; exact hm
      have ht:(cs.take off).length=off:=by rw [List.length_take]; omega
      rw [List.append_assoc] at hj
      rw [h2']
      by_cases e:j < off
      · rw [List.getElem?_append_left (by omega),List.getElem?_take_of_lt e] at hj
        rw [if_neg (by omega)]
        obtain ⟨z,hz,hz'⟩:=hx.get hj
        exact ⟨z,by simpa using hz,hz'⟩
      · rw [List.getElem?_append_right (by omega),ht] at hj
        by_cases e2:j < off + size
        · rw [List.getElem?_append_left (by omega)] at hj
          rw [if_pos (by omega)]
          exact k1.get hj
        · rw [List.getElem?_append_right (by omega),List.getElem?_drop] at hj
          rw [if_neg (by omega)]
          rw [show off + size + (j - off - v.cells.length)=j by omega] at hj
          obtain ⟨z,hz,hz'⟩:=hx.get hj
          exact ⟨z,by simpa using hz,hz'⟩
    have hcc:∀c∈cs.take off ++ v.cells ++ cs.drop (off + size),c.isCell=true:=by
      intro c hcm
      rcases List.mem_append.1 hcm with hcm | hcm
      · rcases List.mem_append.1 hcm with hcm | hcm
        · exact hc c (List.mem_of_mem_take hcm)
        · exact k2 c hcm
      · exact hc c (List.mem_of_mem_drop hcm)
    obtain ⟨xs',r1,r2,r3⟩:=fill_run place rest vrest _ cs' xs2 h (by simpa using hl) (fun j p q hj hq=>hp (j + 1) p q hj hq) hvl hcc
    refine ⟨xs',?_,r2,r3⟩
    have hz:u.cells.zipIdx.foldl (fun cs (p:Value×Nat)=>cs.setIfInBounds (off + p.2) p.1) xs=xs2:=by
      rw [←Array.foldl_toList,Array.toList_zipIdx]
    simp only [Instr.fill,hpl,hus,ne_eq,not_true_eq_false,decide_false,Bool.false_or,decide_eq_true_eq]
    rw [if_neg (by omega)]
    rw [←r1]
    congr 1
end
end Go.AM
namespace Go.AM
open Go
section
variable {P:Program} {g g':G} {w w':World} {ow ow' ow1:Own} {σ σ':St} {fr fr':Fr} {tm:Array Value} {a:Act}
theorem zeroA_run {t:TypeId} {z:AV} (h:zeroA P t=some z):∃v,(∀w,(zeroValue t).run P w = .ok v w)∧AV.ofPlain v=some z∧((P.info? t).bind (·.zero))=some v:=by
  unfold zeroA at h
  cases hi:P.info? t with
  | none=>simp [hi] at h
  | some i =>
    cases hz:i.zero with
    | none=>simp [hi,hz] at h
    | some v=>simp [hi,hz] at h; exact ⟨v,fun w=>by simp [zeroValue,typeInfo,hi,hz],h,by simp [hz]⟩
theorem PV.look {o:Nat→Nat→Prop} {x:AV} {v:Value} (h:PV g w o x v):V g w x.look v:=by
  cases x with
  | list fl sz es =>
    cases fl with
    | own=>exact h.1
    | uniq=>obtain ⟨a,cap,xs,u⟩:=h; rw [u.val]; exact .lenv .nil
    | sh=>exact h
    | full=>exact h
  | _=>exact h
theorem SF.seen (s:SF g w ow fr a.tmps) (x:Operand):V g w (seen fr x) (a.eval x):=(s.opnd x).look
theorem look_isCell {x:AV} (h:x.isCell=true):x.look.isCell=true:=by
  cases x with
  | list fl sz es=>cases fl <;> simp_all [AV.look,AV.isCell]
  | _=>exact h
theorem parts_V (r:SF g w ow fr a.tmps) {l:List (Nat×Operand)}:∀(j:Nat) p q,(l.map fun (i,x)=>(i,seen fr x))[j]? = some p→(l.map fun (i,x)=>(i,a.eval x))[j]? = some q→p.1=q.1∧V g w p.2 q.2:=by
  intro j p q hp hq
  rw [List.getElem?_map] at hp hq
  cases hl:l[j]? with
  | none=>rw [hl] at hp; cases hp
  | some y =>
    obtain ⟨i,x⟩:=y
    rw [hl] at hp hq
    injection hp with hp; injection hq with hq; subst hp; subst hq
    exact ⟨rfl,r.seen x⟩
theorem build_run {t : TypeId} {parts : List (Nat × AV)} {vparts : Array (Nat × Value)} {v : AV} (h : build P t parts = some v) (hl : parts.length = vparts.toList.length) (hp : ∀ (j : Nat) p q, parts[j]? = some p → vparts.toList[j]? = some q → p.1 = q.1 ∧ V g w p.2 q.2) :
    ∃val,(Instr.build t vparts).run P w = .ok val w∧V g w v val:=by
  unfold build at h
  split at h
  · cases h
  rename_i z hz
  obtain ⟨zv,hz1,hz2,hz3⟩:=zeroA_run hz
  obtain ⟨_,h2,h3,_⟩:=ofPlain_V (g:=g) (w:=w) hz2
  obtain ⟨it,hit,hitz⟩:∃it,P.info? t=some it∧it.zero=some zv:=by
    cases hi:P.info? t with
    | none=>simp [hi] at hz3
    | some it=>exact ⟨it,rfl,by simpa [hi] using hz3⟩
  split at h
  · rename_i places hpl
    cases hf:fillA (fun i=>places[i]?) z.cells parts with
    | none=>simp [hf] at h
    | some cs =>
      simp [hf] at h; subst h
      obtain ⟨xs',r1,r2,r3⟩:=fill_run (g:=g) (w:=w) _ parts vparts.toList _ _ _ hf hl hp h2 h3
      unfold structPlaces at hpl
      split at hpl
      · rename_i fields hu
        refine ⟨.agg xs',run_build w t vparts xs' ?_,.agg r3 r2 .nil⟩
        unfold Program.built
        simp only [hit,hu,hitz,hpl]
        simpa using r1
      · cases hpl
  · split at h
    · rename_i n hn
      cases hf:fillA (fun i=>some (i * n,n)) z.cells parts with
      | none=>simp [hf] at h
      | some cs =>
        simp [hf] at h; subst h
        obtain ⟨xs',r1,r2,r3⟩:=fill_run (g:=g) (w:=w) _ parts vparts.toList _ _ _ hf hl hp h2 h3
        unfold arrayCells at hn
        split at hn
        · rename_i m e hu
          cases hie:P.info? e with
          | none=>simp [hie] at hn
          | some ie =>
            simp [hie] at hn; subst hn
            refine ⟨.agg xs',run_build w t vparts xs' ?_,.agg r3 r2 .nil⟩
            unfold Program.built
            simp only [hit,hu,hitz,hie]
            exact r1
        · cases hn
    · cases h
theorem set_flatMap {n : Nat} : ∀ {es : List AV} {i : Nat} {v : AV}, (∀ e ∈ es, e.cells.length = n) → v.cells.length = n → i < es.length →
    (es.set i v).flatMap AV.cells=(es.flatMap AV.cells).take (i * n) ++ v.cells ++ (es.flatMap AV.cells).drop (i * n + n)
  | [],_,_,_,_,hi=>by simp at hi
  | e :: es,0,v,he,hv,_=>by
    have:=he e (by simp)
    simp [this]
  | e :: es,i + 1,v,he,hv,hi=>by
    have h1:=he e (by simp)
    rw [List.set_cons_succ,List.flatMap_cons,List.flatMap_cons,set_flatMap (fun x hx=>he x (by simp [hx])) hv (by simpa using hi)]
    rw [Nat.add_mul,Nat.one_mul]
    have e1:(e.cells ++ es.flatMap AV.cells).take (i * n + n)=e.cells ++ (es.flatMap AV.cells).take (i * n):=by
      rw [List.take_append,h1,Nat.add_sub_cancel,List.take_of_length_le (l:=e.cells) (by omega)]
    have e2:(e.cells ++ es.flatMap AV.cells).drop (i * n + n + n)=(es.flatMap AV.cells).drop (i * n + n):=by
      rw [List.drop_append,h1,List.drop_of_length_le (l:=e.cells) (by omega),List.nil_append,Nat.add_sub_cancel]
    rw [e1,e2,List.append_assoc,List.append_assoc,List.append_assoc]
theorem fillE_fillA {n : Nat} : ∀ {parts : List (Nat × AV)} {es es' : List AV}, (∀ e ∈ es, e.cells.length = n) → AV.under.go 0 es = true → fillE n es parts = some es' →
    fillA (fun i=>some (i * n,n)) (es.flatMap AV.cells) parts=some (es'.flatMap AV.cells)∧(∀e∈es',e.cells.length=n)∧es'.length=es.length∧AV.under.go 0 es'=true
  | [],es,es',he,hu,h=>by simp [fillE] at h; subst h; exact ⟨rfl,he,rfl,hu⟩
  | (i,v) :: rest,es,es',he,hu,h=>by
    simp only [fillE] at h
    split at h
    case isFalse=>cases h
    rename_i hc
    obtain ⟨c1,c2,c3,c4⟩:=hc
    have he':∀e∈es.set i v,e.cells.length=n:=fun e hm=>by
      rcases List.mem_or_eq_of_mem_set hm with hm | rfl
      · exact he e hm
      · exact c1
    have hu':AV.under.go 0 (es.set i v)=true:=under_mem.2 fun e hm=>by
      rcases List.mem_or_eq_of_mem_set hm with hm | rfl
      · exact (under_mem.1 hu) e hm
      · exact c3
    obtain ⟨r1,r2,r3,r4⟩:=fillE_fillA he' hu' h
    refine ⟨?_,r2,by rw [r3]; simp,r4⟩
    simp only [fillA]
    have hlen:=elems_length he
    have hmul:(i + 1) * n≤es.length * n:=Nat.mul_le_mul_right _ c2
    rw [Nat.add_mul,Nat.one_mul] at hmul
    rw [if_neg (by rw [hlen]; simp [c1,c4]; omega),←set_flatMap he c1 c2]
    exact r1
theorem replicate_flatMap {cs:List AV} {n:Nat} (hn:cs.length=n) (h0:0 < n):∀(k i:Nat),i < k * n→((List.replicate k cs).flatten)[i]? = cs[i % n]?
  | 0,i,h=>by omega
  | k + 1,i,h=>by
    rw [List.replicate_succ,List.flatten_cons]
    by_cases hi:i < n
    · rw [List.getElem?_append_left (by omega),Nat.mod_eq_of_lt hi]
    · rw [List.getElem?_append_right (by omega),hn,replicate_flatMap hn h0 k (i - n) (by rw [Nat.add_mul] at h; omega)]
      rw [show i % n=(i - n) % n from (Nat.mod_eq_sub_mod (by omega))]
theorem zeros_V {z : AV} {zv : Value} {n : Nat} (hz : AV.ofPlain zv = some z) (hn : z.cells.length = n) (h0 : 0 < n) (k : Nat) :
    VL g w ((List.replicate k z).flatMap AV.cells) ((Array.range (k * n)).map (zv.cells[· % zv.cells.size]!)).toList:=by
  obtain ⟨_,h2,h3,_⟩:=ofPlain_V (g:=g) (w:=w) hz
  have hs:zv.cells.size=n:=by have:=h2.length; simp at this; omega
  have hf:(List.replicate k z).flatMap AV.cells=(List.replicate k z.cells).flatten:=by rw [List.flatMap_def,List.map_replicate]
  have hl:((List.replicate k z.cells).flatten).length=k * n:=by simp [hn]
  rw [hf]
  refine VL.of_get (by simp [hn]) fun i c hi => ?_
  have hlt:i < k * n:=by have:=(List.getElem?_eq_some_iff.1 hi).1; omega
  rw [replicate_flatMap hn h0 k i hlt] at hi
  obtain ⟨v,hv,hv'⟩:=h2.get hi
  refine ⟨v,?_,hv'⟩
  have hm:i % n < n:=Nat.mod_lt _ h0
  have:zv.cells[i % n]? = some v:=by simpa using hv
  have hb:zv.cells[i % n]! = v:=by rw [getElem!_def,this]
  simp [hlt,hs,hb]
theorem read_run (s : SS g w ow σ) {p : AV} {pv : Value} {n : Nat} {cs : List AV} (h : readCells σ p n = some cs) (hp : V g w p pv) :
    ∃a xs,pv = .pointer (some a)∧a.spot=none∧cs.length=n∧VL g w cs xs∧(∀c∈cs,c.isCell=true)∧∀(i:Nat) v,xs[i]? = some v→w.cell? (a.add i)=some v:=by
  unfold readCells at h
  split at h
  · rename_i r off
    obtain ⟨b,rfl,hr⟩:=hp.ptr_inv
    cases hb:boxOf σ r with
    | none=>simp [hb] at h
    | some bs =>
      simp only [hb,Option.bind_some] at h
      split at h
      case isFalse=>cases h
      rename_i hl
      obtain ⟨hl,hguard⟩:=hl
      injection h with h; subst h
      obtain ⟨_,b',xs,E,fz,hr',hbox⟩:=s.box hb
      rw [hr] at hr'; injection hr' with hr'; subst hr'
      have hlen:(((bs.drop off).take n).map AV.look).length=n:=by simp; omega
      have hget:∀(i:Nat) (c:AV),(((bs.drop off).take n).map AV.look)[i]? = some c→∃v,w.cell? ⟨b,off + i,none⟩=some v∧V g w c v∧c.isCell=true:=by
        intro i c hc
        have hc0:=hc
        rw [List.getElem?_map,List.getElem?_take] at hc
        split at hc
        · rename_i hin
          rw [List.getElem?_drop] at hc
          cases hbi:bs[off + i]? with
          | none=>rw [hbi] at hc; cases hc
          | some c' =>
            rw [hbi] at hc; injection hc with hc; subst hc
            obtain ⟨v,h1,h2,h3⟩:=hbox.read hbi
            refine ⟨v,h1,h2.look,?_⟩
            rcases hguard with hn | hall
            · rcases h3 with h3 | h3
              · exact look_isCell h3
              · have:=(List.getElem?_eq_some_iff.1 hbi).1; omega
            · exact List.all_eq_true.1 hall _ (List.mem_of_getElem? hc0)
        · cases hc
      let xs:List Value:=(List.range n).map fun i=>(w.cell? ⟨b,off + i,none⟩).getD undef
      have hx:∀(i:Nat),i < n→xs[i]? = some ((w.cell? ⟨b,off + i,none⟩).getD undef):=fun i hi=>by simp [xs,hi]
      refine ⟨⟨b,off,none⟩,xs,rfl,rfl,hlen,?_,?_,?_⟩
      · refine VL.of_get (by simp [xs]; omega) fun i c hc => ?_
        obtain ⟨v,h1,h2,_⟩:=hget i c hc
        have hi:i < n:=by have:=(List.getElem?_eq_some_iff.1 hc).1; omega
        exact ⟨v,by rw [hx i hi,h1]; rfl,h2⟩
      · intro c hc
        obtain ⟨i,hi⟩:=List.getElem?_of_mem hc
        exact (hget i c hi).choose_spec.2.2
      · intro i v hi
        have hin:i < n:=by have:=(List.getElem?_eq_some_iff.1 hi).1; simpa [xs] using this
        obtain ⟨u,h1,_⟩:=hget i _ (List.getElem?_eq_getElem (by omega))
        rw [hx i hin,h1] at hi
        rw [Addr.add_lit,h1]; simpa using hi
  · rename_i bs
    split at h
    case isFalse=>cases h
    rename_i hl
    injection h with h; subst h
    cases hp with
    | @rop _ ad xs _ _ h1 h2 h3 h4 h5 _ =>
    refine ⟨ad,xs.take n,rfl,h1,by rw [List.length_take]; omega,h4.takes n,fun c hc=>h2 c (List.mem_of_mem_take hc),fun i v hi => ?_⟩
    rw [add_spot h1]
    rw [List.getElem?_take] at hi
    split at hi
    · exact (h5 i v hi).1
    · cases hi
  · cases h
theorem loadAt_run (s:SS g w ow σ) {t:TypeId} {p v:AV} {pv:Value} (h:load P false t p σ=some (v,σ')) (hp:V g w p pv):σ'=σ∧∃val,(Instr.loadAt t pv).run P w = .ok val w∧V g w v val:=by
  unfold load at h
  split at h
  · rename_i ha
    split at h
    · cases h
    rename_i h0
    cases hr:readCells σ p (P.cellsOf t) with
    | none=>simp [hr] at h
    | some cs =>
      simp [hr] at h
      obtain ⟨rfl,rfl⟩:=h
      obtain ⟨ad,xs,rfl,h1,h2,h3,h4,h5⟩:=read_run s hr hp
      have hl:xs.length=P.cellsOf t:=by rw [h3.length,h2]
      have:=run_loadCells_list (P:=P) w ad xs h5
      rw [hl] at this
      exact ⟨rfl,.agg xs.toArray,by simp [Instr.loadAt,Instr.sureAddr,loadVar,run_aggOf ha,run_sizeOf h0,this],.agg h4 (by simpa using h3) .nil⟩
  · rename_i ha
    cases p with
    | ptr r off =>
      simp only at h
      obtain ⟨b,rfl,hr⟩:=hp.ptr_inv
      cases hb:boxOf σ r with
      | none=>simp [hb] at h
      | some cs =>
        simp only [hb,Option.bind_some] at h
        split at h
        case h_2=>cases h
        rename_i v' hv'
        simp only [Option.some.injEq,Prod.mk.injEq] at h
        obtain ⟨rfl,rfl⟩:=h
        obtain ⟨_,b',xs,E,fz,hr',hbox⟩:=s.box hb
        rw [hr] at hr'; injection hr' with hr'; subst hr'
        obtain ⟨u,c1,c2,_⟩:=hbox.read hv'
        exact ⟨rfl,u,by simp [Instr.loadAt,Instr.sureAddr,loadVar,run_aggOf ha,Go.load,Sem.run,c1],c2.look⟩
    | rop cs =>
      cases cs with
      | nil=>simp at h
      | cons c cs =>
        simp only [Option.some.injEq,Prod.mk.injEq] at h
        obtain ⟨rfl,rfl⟩:=h
        have hr:readCells σ (.rop (c :: cs)) 1=some [c]:=by simp [readCells]
        obtain ⟨ad,xs,rfl,h1,h2,h3,h4,h5⟩:=read_run s hr hp
        obtain ⟨u,us,rfl,h6,h7⟩:=h3.cons_left
        have:=h5 0 u rfl
        refine ⟨rfl,u,?_,h6⟩
        rw [add_spot h1] at this
        have he:(⟨ad.block,ad.off + 0,none⟩:Addr)=ad:=by cases ad; simp_all
        rw [he] at this
        simp [Instr.loadAt,Instr.sureAddr,loadVar,run_aggOf ha,Go.load,Sem.run,this]
    | _=>simp at h
  · cases h
end
end Go.AM
namespace Go.AM
open Go
section
variable {P:Program} {g g':G} {w w':World} {ow ow' ow1:Own} {σ σ':St} {fr fr':Fr} {tm:Array Value} {a:Act} {dst:Option Tmp}
theorem Tr.nought {M:Nat→Nat→Prop} (t:Tr Nought g w g' w'):Tr M g w g' w':=t.weaken fun _ _ h=>h.elim
theorem Out.new {v : AV} {val : Value} {wr' : Nat → Nat → Prop} {ro : Nat → Nat → Prop} (r : Rel { g with wr := wr' } w' ow fr tm σ) (t : Tr Nought g w { g with wr := wr' } w') (f : Free { g with wr := wr' } ow ro)
    (hro:∀b o,ro b o→b=w.heap.size) (hwr:∀b o,wr' b o→g.wr b o∨b=w.heap.size) (hk:∀b o,g.wr b o→wr' b o) (hv:PV { g with wr:=wr' } w' ro v val):∃g' ow',Out g w ow dst v fr σ tm g' w' ow' val:=by
  obtain ⟨ow',h⟩:=Out.of (g:=g) (w:=w) (ow:=ow) (dst:=dst) r hv f t.nought (fun p b o h => .inl (.own h)) (fun b o h => .inr (Nat.le_of_eq (hro b o h).symm)) (fun b o h1 h2=>(hwr b o h2).elim (fun h => .inl (.inl ⟨h1,h⟩)) fun h => .inr (Nat.le_of_eq h.symm)) (fun b o h => .inr (hk b o h)) (fun _ h => .inl h)
  exact ⟨_,ow',h⟩
theorem Out.calm {sz : Nat} {es : List AV} {v : AV} {val : Value} {wr' : Nat → Nat → Prop} {ro : Nat → Nat → Prop} (r : Rel { g with wr := wr' } w' ow fr tm σ) (t : Tr Nought g w { g with wr := wr' } w') (f : Free { g with wr := wr' } ow ro)
    (hro:∀b o,ro b o→b=w.heap.size) (hwr:∀b o,wr' b o→g.wr b o∨b=w.heap.size) (hkw:∀b o,g.wr b o→wr' b o) (hlt:∀b o,g.wr b o→b < w.heap.size) (hv:PV { g with wr:=wr' } w' ro (.list .uniq sz es) val)
    (hk:∀(g1:G) ro',PV g1 w' ro' (.list .own sz es) val→PV g1 w' ro' v val):∃g' ow',Out g w ow dst v fr σ tm g' w' ow' val:=by
  obtain ⟨X,ro',r',hp,f',k1,k2⟩:=Uniq.calm r hv f
  have t':Tr Nought g w (G.less { g with wr:=wr' } X) w':=t.trans (Tr.less (M:=Nought) X) fun _ _ h=>False.elim h
  exact Out.new (wr':=fun b o=>wr' b o∧¬X b o) r' t' f' (fun b o h=>hro b o (k1 b o h)) (fun b o h=>hwr b o h.1) (fun b o h=>⟨hkw b o h,fun hx=>by have:=hro b o (k2 b o hx); have:=hlt b o h; omega⟩) (hk _ _ hp)
theorem PV.toFull {o:Nat→Nat→Prop} {sz:Nat} {es:List AV} {ad:Addr} {n:Nat} (h:PV g w o (.list .own sz es) (.slice (some ad) n n)):PV g w o (.list .full sz es) (.slice (some ad) n n):=by
  obtain ⟨h1,_⟩:=h
  cases h1 with
  | list k1 k2 k3 k4 k5 k6 k7 k8 k9 _=>exact VL.list (.inr ⟨rfl,rfl⟩) k2 k3 k4 k5 k6 k7 k8 k9 .nil
theorem newVar_run {t:TypeId} {v:Value}:(newVar t v).run P w = .ok ⟨w.heap.size,0,none⟩ (w.alloc (.cells v.cells t)):=by
  simp [newVar,newRow]
theorem Out.box {hp : Bool} {rf : Ref} {cs : List AV} {vals : Array Value} {E : TypeId} {ro : Nat → Nat → Prop} {fr1 : Fr} (r : Rel g w ow1 fr1 tm σ) (h : AM.newBox hp cs σ = some (rf, σ')) (hv : Cells g w ro cs vals.toList) (f : Free g ow1 ro)
    (h1:∀p b o,ow1 p b o→ow p b o) (h2:∀b o,ro b o→May g ow b o) :
    ∃g' ow',Out g w ow dst (.ptr rf 0) fr1 σ' tm g' (w.alloc (.cells vals E)) ow' (.pointer (some ⟨w.heap.size,0,none⟩)):=by
  obtain ⟨g',ow',r',k1,k2,k3,k4,k5,k6,k7⟩:=r.newBox h hv f (w':=w.alloc (.cells vals E)) rfl
  have hlt:∀b o,May g ow b o→True:=fun _ _ _=>trivial
  obtain ⟨ow'',h⟩:=Out.of (g:=g) (w:=w) (ow:=ow) (dst:=dst) r' (PV.of (o:=Nobody) (.ptr k1 .nil)) (Free.nobody _ _) k2.nought (fun p b o h=>by
    rcases k3 p b o h with h | h
    · exact .inl (.own (h1 _ _ _ h))
    · exact .inl (h2 _ _ h)) (fun b o h=>h.elim) (fun b o hb hw=>by
      rcases k5 b hb with hb | hb
      · rcases k2.wr b o hw with hw | hw
        · exact .inl (.inl ⟨hb,hw⟩)
        · exact .inr hw
      · exact .inr (Nat.le_of_eq hb.symm)) (fun b o h => .inr (k6 b o h)) (fun b h=>(k7 b h).imp id fun h=>Nat.le_of_eq h.symm)
  exact ⟨g',ow'',h⟩
theorem alloc_out (r : Rel g w ow fr tm σ) {hp : Bool} {t : TypeId} {z : AV} {rf : Ref} (hz : zeroA P t = some z) (h : AM.newBox hp z.cells σ = some (rf, σ')) :
    ∃val w',(Instr.alloc t true (.tuple #[])).run P w = .ok val w'∧∃g' ow',Out g w ow dst (.ptr rf 0) fr σ' tm g' w' ow' val:=by
  obtain ⟨zv,hz1,hz2,_⟩:=zeroA_run hz
  obtain ⟨_,k2,k3,_⟩:=ofPlain_V (g:=g) (w:=w) hz2
  exact ⟨.pointer (some ⟨w.heap.size,0,none⟩),w.alloc (.cells zv.cells t),by simp [Instr.alloc,hz1,newVar_run],Out.box r h (Cells.of (ro:=Nobody) k2 k3) (Free.nobody _ _) (fun _ _ _ h=>h) fun _ _ h=>h.elim⟩
theorem PV.calmCells {ro : Nat → Nat → Prop} {x : AV} {v : Value} (r : Rel g w ow fr tm σ) (h : PV g w ro x v) (f : Free g ow ro) (hf : x.fit = true) :
    ∃X ro',Rel (g.less X) w ow fr tm σ∧Cells (g.less X) w ro' x.calm.cells v.cells.toList∧Free (g.less X) ow ro'∧(∀b o,ro' b o→ro b o)∧(∀b o,X b o→ro b o):=by
  have same:∀(hx:x.calm=x),Cells g w ro x.cells v.cells.toList→∃X ro',Rel (g.less X) w ow fr tm σ∧Cells (g.less X) w ro' x.calm.cells v.cells.toList∧Free (g.less X) ow ro'∧(∀b o,ro' b o→ro b o)∧(∀b o,X b o→ro b o):=by
    intro hx hc
    refine ⟨fun _ _=>False,ro,r.less (fun _ _ h=>h.elim) (fun _ _ _ _ h=>h),⟨by rw [hx]; exact hc.1,fun i c hi => ?_⟩,f.less fun b o h=>⟨h,fun h=>h⟩,fun _ _ h=>h,fun _ _ h=>h.elim⟩
    rw [hx] at hi
    obtain ⟨u,h1,h2,h3⟩:=hc.2 i c hi
    exact ⟨u,h1,h2.later (Tr.less (M:=Nought) _) (fun _ _ h=>h.elim) (fun _ _ _ h=>h),h3⟩
  have plain:(hx:x.calm=x)→x.common=true→∃X ro',Rel (g.less X) w ow fr tm σ∧Cells (g.less X) w ro' x.calm.cells v.cells.toList∧Free (g.less X) ow ro'∧(∀b o,ro' b o→ro b o)∧(∀b o,X b o→ro b o):=by
    intro hx hc
    obtain ⟨k1,k2⟩:=V.cells (h.plain hc) hf
    exact same hx (Cells.of k1 k2)
  cases x with
  | list fl sz es =>
    cases fl with
    | uniq =>
      obtain ⟨X,ro',r',hp,f',k1,k2⟩:=Uniq.calm r h f
      obtain ⟨ad,cap,xs,u⟩:=h
      refine ⟨X,ro',r',?_,f',k1,k2⟩
      rw [u.val] at hp ⊢
      exact Cells.one hp rfl
    | own =>
      obtain ⟨h1,ad,n,c,rfl,h2⟩:=h
      exact same rfl (Cells.one ⟨h1,ad,n,c,rfl,h2⟩ rfl)
    | sh=>exact plain rfl rfl
    | full=>exact plain rfl rfl
  | _=>exact plain rfl rfl
theorem box_out (r : Rel g w ow fr a.tmps σ) {tk hp : Bool} {x : Operand} {t : TypeId} {rf : Ref} (hf : (taken tk fr x).1.fit = true) (h : AM.newBox hp (taken tk fr x).1.calm.cells σ = some (rf, σ')) :
    ∃g' ow',Out g w ow dst (.ptr rf 0) (taken tk fr x).2 σ' a.tmps g' (w.alloc (.cells (a.eval x).cells t)) ow' (.pointer (some ⟨w.heap.size,0,none⟩)):=by
  have step:∃g1 ow1 ro,Rel g1 w ow1 (taken tk fr x).2 a.tmps σ∧Cells g1 w ro (taken tk fr x).1.calm.cells (a.eval x).cells.toList∧Free g1 ow1 ro∧Tr Nought g w g1 w∧(∀p b o,ow1 p b o→ow p b o)∧(∀b o,ro b o→May g ow b o)∧(∀b o,g1.wr b o→g.wr b o)∧(∀b,g1.isBox b→g.isBox b)∧(∀b o,g.wr b o→May g ow b o∨g1.wr b o)∧g1.hb=g.hb:=by
    cases tk with
    | true =>
      obtain ⟨ow1,r1,hp1,f1,k1⟩:=taken_true r x
      obtain ⟨X,ro',r2,hc,f2,k2,k3⟩:=PV.calmCells r1 hp1 f1 hf
      have hm:∀b o,ownOf ow x b o→May g ow b o:=fun b o this=>by cases x <;> first | exact .own this | exact this.elim
      exact ⟨g.less X,ow1,ro',r2,hc,f2,Tr.less X,k1,fun b o h=>hm _ _ (k2 _ _ h),fun _ _ h=>h.1,fun _ h=>h,fun b o h=>(Classical.em (X b o)).elim (fun hx => .inl (hm _ _ (k3 _ _ hx))) fun hx => .inr ⟨h,hx⟩,rfl⟩
    | false =>
      obtain ⟨g1,ow1,r1,hv,t1,k1,k2,k3,k6,k7,k8⟩:=taken_false r x
      obtain ⟨X,ro',r2,hc,f2,k4,k5⟩:=PV.calmCells r1 (PV.of (o:=Nobody) hv) (Free.nobody _ _) hf
      refine ⟨g1.less X,ow1,ro',r2,hc,f2,?_,k1,fun b o h=>(k4 _ _ h).elim,fun _ _ h=>k2 _ _ h.1,fun _ h=>k3 _ h,fun b o h=>(k6 b o h).elim (fun h => .inr ⟨h,fun hx=>(k5 _ _ hx).elim⟩) fun h => .inl (.inr h),k8⟩
      exact ⟨Nat.le_refl _,fun _ _ _=>rfl,fun _ _ _ _=>rfl,fun _ _ v h=>⟨v,h⟩,fun _ _ _=>rfl,fun _ _ h => .inl (k2 _ _ h.1),t1.sb,t1.hb,.r⟩
  obtain ⟨g1,ow1,ro,r1,hc,f1,t1,k1,k2,k3,k4,k5,k6⟩:=step
  obtain ⟨g',ow',r',j1,j2,j3,j4,j5,j6,j7⟩:=r1.newBox h hc f1 (w':=w.alloc (.cells (a.eval x).cells t)) rfl
  obtain ⟨ow'',h⟩:=Out.of (g:=g) (w:=w) (ow:=ow) (dst:=dst) r' (PV.of (o:=Nobody) (.ptr j1 .nil)) (Free.nobody _ _) (t1.trans j2 fun _ _ h=>False.elim h).nought (fun p b o h=>by
    rcases j3 p b o h with h | h
    · exact .inl (.own (k1 _ _ _ h))
    · exact .inl (k2 _ _ h)) (fun b o h=>h.elim) (fun b o hb hw=>by
      rcases j5 b hb with hb | hb
      · rcases j2.wr b o hw with hw | hw
        · exact .inl (.inl ⟨k4 _ hb,k3 _ _ hw⟩)
        · exact .inr hw
      · exact .inr (Nat.le_of_eq hb.symm)) (fun b o h=>(k5 b o h).imp id (j6 b o)) (fun b h=>(j7 b h).imp (fun h=>k6▸h) fun h=>Nat.le_of_eq h.symm)
  exact ⟨g',ow'',h⟩
end
end Go.AM
namespace Go.AM
open Go
section
variable {P:Program} {g g':G} {w w':World} {ow ow' ow1:Own} {σ σ':St} {fr fr':Fr} {tm:Array Value} {a:Act} {dst:Option Tmp}
theorem oneCell_of {x:AV} {v:Value} {o:Nat→Nat→Prop} (h:PV g w o x v) (hc:x.isCell=true):v.oneCell'=true:=by
  cases x with
  | agg cs=>simp [AV.isCell] at hc
  | undef=>simp [AV.isCell] at hc
  | tup vs=>simp [AV.isCell] at hc
  | s y=>obtain rfl:=V.sc_inv h; cases y <;> rfl
  | list fl sz es =>
    obtain ⟨ad,c,rfl,_⟩:=V_len_slice h; rfl
  | rop cs=>obtain ⟨ad,rfl⟩:=V.rop_inv h; rfl
  | ptr r off=>obtain ⟨b,rfl,_⟩:=V.ptr_inv h; rfl
  | row r off len cap=>obtain ⟨b,c,rfl,_⟩:=V.row_inv h; rfl
  | map n=>obtain ⟨b,rfl,_⟩:=V.map_inv h; rfl
  | fn f p c=>obtain ⟨xs,ys,rfl,_⟩:=V.fn_inv h; rfl
  | yield n=>cases (show V g w (.yield n) v from h) with | yield _ _=>rfl
  | lenv n=>cases (show V g w (.lenv n) v from h) with | lenv _=>rfl
theorem Cells.one' {one:Prop} {ro:Nat→Nat→Prop} {cs:List AV} {vs:List Value} (h:CellsV one g w ro cs vs):∀v∈vs,v.oneCell'=true:=by
  intro v hv
  obtain ⟨i,hi⟩:=List.getElem?_of_mem hv
  have hl:i < cs.length:=by have:=(List.getElem?_eq_some_iff.1 hi).1; rw [←h.1]; exact this
  obtain ⟨u,h1,h2,h3⟩:=h.2 i _ (List.getElem?_eq_getElem hl)
  rw [hi] at h1; injection h1 with h1; subst h1
  rcases h3 with h3 | h3
  · exact oneCell_of h2 h3
  · revert h2 h3
    cases hq:cs[i] with
    | list fl sz es=>intro h2 _; obtain ⟨ad,c,rfl,_⟩:=V_len_slice h2; rfl
    | _=>intro _ h3; simp [AV.kept,AV.fit] at h3
theorem write_run (r : Rel g w ow1 fr tm σ) {rf : Ref} {off b : Nat} {vs : List AV} {vals : List Value} {ro : Nat → Nat → Prop} (h : writeCells σ rf off vs = some σ') (hb : g.ref rf = some b) (hv : Cells g w ro vs vals) (f : Free g ow1 ro) :
    (storeCells ⟨b,off,none⟩ vals).run P w = .ok () (w.setCells b off vals)∧∃ow',Rel g (w.setCells b off vals) ow' fr tm σ'∧Tr (May g ow1) g w g (w.setCells b off vals)∧(∀p b o,ow' p b o→ow1 p b o∨ro b o):=by
  obtain ⟨k1,k2,ow',k3,k4,k5,_⟩:=r.write h hb hv f
  refine ⟨?_,ow',k3,k4,k5⟩
  have:=run_storeCells_cells (P:=P) b off vals 0 w (by simpa using k1) (by simpa using k2) (Cells.one' hv)
  simpa using this
theorem store_out (r : Rel g w ow fr a.tmps σ) {x p : Operand} {t : TypeId} (hf : (taken true fr x).1.fit = true) (h : AM.store P t (seen (taken true fr x).2 p) (taken true fr x).1.calm σ = some σ') :
    ∃w',(Instr.storeAt t (a.eval p) (a.eval x)).run P w = .ok () w'∧∃g' ow',Out g w ow dst .undef (taken true fr x).2 σ' a.tmps g' w' ow' undef:=by
  obtain ⟨ow1,r1,hp1,f1,k1⟩:=taken_true r x
  obtain ⟨X,ro',r2,hc,f2,k2,k3⟩:=PV.calmCells r1 hp1 f1 hf
  unfold AM.store at h
  split at h
  case h_2=>cases h
  rename_i rf off hpe
  split at h
  case isFalse=>cases h
  rename_i hcond
  have hpv:=r2.sf.seen p
  rw [hpe] at hpv
  obtain ⟨b,hpv',hb⟩:=hpv.ptr_inv
  obtain ⟨j1,ow',j2,j3,j4⟩:=write_run (P:=P) r2 h hb hc f2
  have hsz:(a.eval x).cells.size=P.cellsOf t:=by have:=hc.1; simp at this; rw [this]; exact hcond.1
  refine ⟨w.setCells b off (a.eval x).cells.toList,?_,?_⟩
  · rw [hpv']
    simp [Instr.storeAt,Instr.sureAddr,storeVar,run_sizeOf hcond.2.1,hsz,j1]
  · have hm:∀b o,ownOf ow x b o→May g ow b o:=fun b o h=>by cases x <;> first | exact .own h | exact h.elim
    have t0:Tr (May g ow) g w (g.less X) (w.setCells b off (a.eval x).cells.toList):=(Tr.less (M:=May g ow) X).trans j3 fun b o h=>by
      rcases May.less h with h | ⟨p,h⟩
      · exact .inl (.inl h)
      · exact .inl (.own (k1 _ _ _ h))
    obtain ⟨ow'',ho⟩:=Out.of (g:=g) (w:=w) (ow:=ow) (dst:=dst) j2 (PV.undef (o:=Nobody) undef) (Free.nobody _ _) t0 (fun p b o h=>by
      rcases j4 p b o h with h | h
      · exact .inl (.own (k1 _ _ _ h))
      · exact .inl (hm _ _ (k2 _ _ h))) (fun b o h=>h.elim) (fun b o h1 h2 => .inl (.inl ⟨h1,h2.1⟩)) (fun b o h=>(Classical.em (X b o)).elim (fun hx => .inl (hm _ _ (k3 _ _ hx))) fun hx => .inr ⟨h,hx⟩) (fun _ h => .inl h)
    exact ⟨_,ow'',ho⟩
theorem storeU_out (r : Rel g w ow fr a.tmps σ) {x p : Operand} {t : TypeId} (h : AM.storeU P t (seen (taken true fr x).2 p) (taken true fr x).1 σ = some σ') :
    ∃w',(Instr.storeAt t (a.eval p) (a.eval x)).run P w = .ok () w'∧∃g' ow',Out g w ow dst .undef (taken true fr x).2 σ' a.tmps g' w' ow' undef:=by
  obtain ⟨ow1,r1,hp1,f1,k1⟩:=taken_true r x
  unfold AM.storeU at h
  split at h
  case h_2=>cases h
  rename_i rf off hpe
  split at h
  case isFalse=>cases h
  rename_i hcond
  obtain ⟨hag,hsize,hfit,hk⟩:=hcond
  cases hbx:boxOf σ rf with
  | none=>simp [hbx] at h
  | some cs =>
  simp only [hbx,Option.bind_some] at h
  split at h
  case isFalse=>cases h
  rename_i hone
  have hc:CellsV (cs.length=1) g w (ownOf ow x) [(taken true fr x).1] [a.eval x]:=by
    rcases hk with hk | hk
    · exact (Cells.one hp1 hk).any
    · exact .kept hp1 hk hfit hone.1
  have hpv:=r1.sf.seen p
  rw [hpe] at hpv
  obtain ⟨b,hpv',hb⟩:=hpv.ptr_inv
  obtain ⟨j1,j1',ow',j2,j3,j4,_⟩:=r1.writeV h hb hc (fun h cs' hcs'=>by rw [hbx] at hcs'; injection hcs' with e; rw [←e]; exact h) f1
  have hone1:=Cells.one' hc
  have hrun:(storeCells ⟨b,off,none⟩ [a.eval x]).run P w = .ok () (w.setCells b off [a.eval x]):=by
    have:=run_storeCells_cells (P:=P) b off [a.eval x] 0 w (by simpa using j1) (by simpa using j1') hone1
    simpa using this
  have hcell:(a.eval x).cells = #[a.eval x]:=by
    have h1:=hone1 (a.eval x) (by simp)
    revert h1
    cases a.eval x <;> simp [Value.oneCell',Value.cells]
  refine ⟨w.setCells b off [a.eval x],?_,?_⟩
  · rw [hpv']
    have hsz:(a.eval x).cells.size=P.cellsOf t:=by rw [hcell,hsize]; rfl
    simp [Instr.storeAt,Instr.sureAddr,storeVar,run_sizeOf (show P.cellsOf t≠0 by omega),hsize,hcell,hrun]
  · have hm:∀b o,ownOf ow x b o→May g ow b o:=fun b o h=>by cases x <;> first | exact .own h | exact h.elim
    have t0:Tr (May g ow) g w g (w.setCells b off [a.eval x]):=j3.weaken fun b o h=>by
      rcases h with h | ⟨p,h⟩
      · exact .inl h
      · exact .own (k1 _ _ _ h)
    obtain ⟨ow'',ho⟩:=Out.of (g:=g) (w:=w) (ow:=ow) (dst:=dst) j2 (PV.undef (o:=Nobody) undef) (Free.nobody _ _) t0 (fun p b o h=>by
      rcases j4 p b o h with h | h
      · exact .inl (.own (k1 _ _ _ h))
      · exact .inl (hm _ _ h)) (fun b o h=>h.elim) (fun b o h1 h2 => .inl (.inl ⟨h1,h2⟩)) (fun b o h => .inr h) (fun _ h => .inl h)
    exact ⟨_,ow'',ho⟩
theorem PV.shv {o:Nat→Nat→Prop} {x:AV} {v:Value} (h:PV g w o x v) (hc:x.isCell=true):V g w x.sh v∧x.sh.isCell=true:=by
  refine ⟨h.sh fun sz es e => ?_,?_⟩
  · subst e; simp [AV.isCell] at hc
  · cases x with
    | list fl sz es=>cases fl <;> simp_all [AV.sh,AV.isCell]
    | _=>exact hc
theorem load_out (r : Rel g w ow fr a.tmps σ) {tk : Bool} {t : TypeId} {p : Operand} {v : AV} (h : AM.load P tk t (seen fr p) σ = some (v, σ')) :
    ∃val,(Instr.loadAt t (a.eval p)).run P w = .ok val w∧∃g' ow',Out g w ow dst v fr σ' a.tmps g' w ow' val:=by
  have plain:AM.load P false t (seen fr p) σ=some (v,σ')→∃val,(Instr.loadAt t (a.eval p)).run P w = .ok val w∧∃g' ow',Out g w ow dst v fr σ' a.tmps g' w ow' val:=by
    intro h
    obtain ⟨rfl,val,k1,k2⟩:=loadAt_run r.ss h (r.sf.seen p)
    exact ⟨val,k1,g,Out.pure r k2⟩
  cases tk with
  | false=>exact plain h
  | true =>
    cases ha:aggOf P t with
    | none=>simp [AM.load,ha] at h
    | some b =>
      cases b with
      | true=>exact plain (by simpa [AM.load,ha] using h)
      | false =>
        by_cases hp:∃rf off,seen fr p = .ptr rf off
        · obtain ⟨rf,off,hp⟩:=hp
          rw [hp] at h
          simp only [AM.load,ha] at h
          cases hb:boxOf σ rf with
          | none=>simp [hb] at h
          | some cs =>
            simp only [hb,Option.bind_some] at h
            split at h
            case h_2=>cases h
            rename_i v' hv'
            simp only [Option.some.injEq,Prod.mk.injEq] at h
            obtain ⟨rfl,rfl⟩:=h
            have hpv:=r.sf.seen p
            rw [hp] at hpv
            obtain ⟨bl,hpv',hr⟩:=hpv.ptr_inv
            obtain ⟨hu,b',xs,E,fz,hr',hbox⟩:=r.ss.box hb
            rw [hr] at hr'; injection hr' with hr'; subst hr'
            obtain ⟨val,c1,c2,c3⟩:=hbox.read hv'
            have hl:off + 1≤cs.length:=(List.getElem?_eq_some_iff.1 hv').1
            have r1:Rel g w (ow.set (rf.pl off) Nobody) fr a.tmps (setBox σ rf (splice cs off [v'.left])):=by
              refine ⟨?_,r.own.set (Free.nobody _ _),?_⟩
              · refine r.ss.setBox (xs':=xs) (E':=E) (fz':=fz) r.own hb hr (Tr.refl Nought g w) (fun _ _ h=>False.elim h) r.ss.lt rfl rfl (fun _ _ _ _ h=>h) ?_ ⟨hbox.obj,by rw [splice_length _ _ _ hl]; exact hbox.le,?_,fun i hi=>by rw [splice_length _ _ _ hl] at hi; exact hbox.wr i hi⟩ ?_
                · refine under_splice hl hu ?_
                  have:=(under_mem.1 hu) v' (List.mem_of_getElem? hv')
                  simp only [AV.under.go,Bool.and_true]
                  revert this
                  cases v' with
                  | list fl sz es=>cases fl <;> simp [AV.left,AV.under]
                  | _=>exact id
                · intro i x hi
                  rw [splice_get _ _ _ hl] at hi
                  by_cases e:i=off
                  · subst e
                    rw [if_pos (by simp),Nat.sub_self] at hi
                    simp at hi; subst hi
                    obtain ⟨u,u1,u2,u3⟩:=hbox.val i v' hv'
                    rw [splice_length _ _ _ hl]
                    by_cases hk:v'.kept=true
                    · refine ⟨u,u1,?_,?_⟩
                      · cases v' with
                        | list fl sz es=>cases fl <;> first | exact PV.undef _ | simp [AV.kept] at hk
                        | _=>first | exact PV.undef _ | simp [AV.kept] at hk
                      · rcases u3 with u3 | u3
                        · cases v' with
                          | list fl sz es=>cases fl <;> simp [AV.kept,AV.isCell] at hk u3
                          | _=>simp [AV.kept,AV.isCell] at hk u3
                        · refine .inr ⟨?_,u3.2⟩
                          cases v' with
                          | list fl sz es=>cases fl <;> first | rfl | simp [AV.kept] at hk
                          | _=>first | rfl | simp [AV.kept] at hk
                    · have u3':v'.isCell=true:=u3.resolve_right fun h=>hk h.1
                      have e1:v'.left=v'.sh:=by
                        cases v' with
                        | list fl sz es=>cases fl <;> first | rfl | simp [AV.kept] at hk
                        | _=>rfl
                      obtain ⟨s1,s2⟩:=u2.shv u3'
                      rw [e1]
                      exact ⟨u,u1,PV.of s1,.inl s2⟩
                  · rw [if_neg (by simp; omega)] at hi
                    obtain ⟨u,u1,u2,u3⟩:=hbox.val i x hi
                    refine ⟨u,u1,?_,by rw [splice_length _ _ _ hl]; exact u3⟩
                    rw [Own.set_other _ _ (by cases rf <;> simp [Ref.pl,e])]; exact u2
                · intro p b' x hp _ h
                  rw [Own.set_other _ _ (hp off)]; exact h
              · refine r.sf.later (Tr.refl Nought g w) (fun _ _ h=>False.elim h) (fun _ _ _ _ h=>h) fun i b x h => ?_
                rw [Own.set_other _ _ (by cases rf <;> simp [Ref.pl])]; exact h
            refine ⟨val,?_,?_⟩
            · rw [hpv']
              simp [Instr.loadAt,Instr.sureAddr,loadVar,run_aggOf ha,Go.load,Sem.run,c1]
            · obtain ⟨ow'',ho⟩:=Out.of (g:=g) (w:=w) (ow:=ow) (dst:=dst) r1 c2 (r.own.take _) (Tr.refl _ _ _) (fun p b o h=>by
                by_cases e:p=rf.pl off
                · rw [e,Own.set_same] at h; exact h.elim
                · rw [Own.set_other _ _ e] at h; exact .inl (.own h)) (fun b o h => .inl (.own h)) (fun b o h1 h2 => .inl (.inl ⟨h1,h2⟩)) (fun _ _ h => .inr h) (fun _ h => .inl h)
              exact ⟨g,ow'',ho⟩
        · refine plain ?_
          simp only [AM.load,ha] at h ⊢
          revert h
          cases hq:seen fr p with
          | ptr rf off=>exact (hp ⟨_,_,hq⟩).elim
          | rop cs=>cases cs <;> exact id
          | _=>exact id
end
end Go.AM
