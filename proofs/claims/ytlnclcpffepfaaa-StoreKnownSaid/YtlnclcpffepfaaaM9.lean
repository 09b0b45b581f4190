import Derived.Test.YtlnclcpffepfaaaM8
import Derived.Test.YtlnclcpffepfaaaM7
set_option linter.unusedSimpArgs false
set_option linter.unusedVariables false
namespace Go.AM
open Go
section
variable {P:Program} {cfg:Cfg} {f:FuncId} {fr fr':Fr} {σ σ':St}
theorem freezeL_ok {t:TypeId} {E:ET} {v v':AV} (h:sliceET P t=some E) (hf:freezeL E v σ=some (v',σ')):AM.freeze P t v σ=some (v',σ'):=by
  obtain ⟨e,hu,he⟩:=sliceET_some h
  obtain ⟨h1,h2,h3,h4,h5⟩:=etOf_some he
  unfold freezeL at hf
  unfold AM.freeze
  rw [hu]
  split at hf
  · simp only [h2,h3]
    simp only [groupL_eq h3 h2] at hf
    exact hf
  · exact hf
  · cases hf
theorem fillA_low {places : Nat → Option (Nat × Nat)} : ∀ {parts : List (Nat × Operand)} {lp : List (Nat × Nat × Opd)} {cs : List AV}, lowParts places parts = some lp →
    fillA places cs (parts.map fun p=>(p.1,AM.seen fr p.2))=fillL cs (lp.map fun p=>(p.1,p.2.1,seL fr p.2.2))
  | [],lp,cs,h=>by simp [lowParts] at h; subst h; rfl
  | (i,x) :: rest,lp,cs,h=>by
    simp only [lowParts] at h
    split at h
    · rename_i off size l hp hl
      simp only [Option.some.injEq] at h
      subst h
      simp only [List.map_cons,fillA,fillL,hp,seL_of]
      split
      · rfl
      · exact fillA_low hl
    · cases h
theorem lowParts_snd {places:Nat→Option (Nat×Nat)}:∀{parts:List (Nat×Operand)} {lp:List (Nat×Nat×Opd)},lowParts places parts=some lp→lp.map (·.2.2)=(parts.map (·.2)).map Opd.of
  | [],lp,h=>by simp [lowParts] at h; subst h; rfl
  | (i,x) :: rest,lp,h=>by
    simp only [lowParts] at h
    split at h
    · rename_i hl
      simp only [Option.some.injEq] at h
      subst h
      simp only [List.map_cons,lowParts_snd hl]
    · cases h
theorem bslL_ok {t:TypeId} {E:ET} {n:Nat} {parts:List (Nat×AV)} {v:AV} (h:sliceET P t=some E) (hb:bslL E n parts=some v):buildSlice P t n parts=some v:=by
  obtain ⟨e,hu,he⟩:=sliceET_some h
  obtain ⟨h1,h2,h3,h4,h5⟩:=etOf_some he
  unfold bslL at hb
  unfold buildSlice
  rw [hu]
  dsimp only
  by_cases hn:n=0
  · rw [if_pos hn] at hb ⊢
    rw [h2]
    split at hb
    · rename_i hp; rw [if_pos ⟨h1,hp⟩]; exact hb
    · cases hb
  · rw [if_neg hn] at hb ⊢
    rw [h2,h5]
    split at hb
    · cases hb
    · rename_i hl
      rw [if_neg (by simp [h1]; omega)]
      exact hb
theorem load1L_ok {t:TypeId} {tk:Bool} {p v:AV} (ha:aggOf P t=some false) (h:load1L tk p σ=some (v,σ')):load P tk t p σ=some (v,σ'):=by
  unfold load
  rw [ha]
  unfold load1L at h
  cases tk with
  | false =>
    cases p with
    | ptr r off=>exact h
    | rop l=>cases l <;> exact h
    | _=>cases h
  | true =>
    cases p with
    | ptr r off=>exact h
    | rop l=>cases l <;> exact h
    | _=>cases h
theorem storeUL_ok {t:TypeId} {p v:AV} (ha:aggOf P t=some false) (hc:P.cellsOf t=1) (h:storeUL p v σ=some σ'):storeU P t p v σ=some σ':=by
  unfold storeUL at h
  unfold storeU
  split at h
  · split at h
    · rename_i hk
      dsimp only
      rw [if_pos ⟨ha,hc,hk.1,hk.2⟩]
      exact h
    · cases h
  · cases h
theorem storeL_ok {t:TypeId} {p v:AV} (h:storeL (P.cellsOf t) p v σ=some σ'):store P t p v σ=some σ':=by
  unfold storeL at h
  unfold store
  split at h
  · exact h
  · cases h
theorem refEq_ok {t:TypeId} {k:Nat} {x y:AV} {b:Bool} {xo yo:Operand} (ht:typeKind P t=some k) (h:refEq k x y=some b):binOp P .eql t xo yo x y=some (.bool b)∧binOp P .neq t xo yo x y=some (.bool !b):=by
  have hu:∃u,P.underlying t=some u:=by
    unfold typeKind at ht
    cases hu:P.underlying t with
    | none=>rw [hu] at ht; cases ht
    | some u=>exact ⟨u,rfl⟩
  obtain ⟨u,hu⟩:=hu
  unfold refEq at h
  split at h
  · rename_i a c hx hy
    split at h
    case isFalse=>cases h
    rename_i hk
    simp only [Option.some.injEq] at h; subst h
    have nil:∀{x:AV} {k:Nat},x.nilKind=some k→(k=0∧x = .s .nilP)∨(k=1∧x = .s .nilS)∨(k=2∧x = .s .nilM)∨(k=3∧x = .s .nilF):=by
      intro x k hk
      unfold AV.nilKind at hk
      split at hk <;> simp at hk <;> subst hk <;> simp
    have h0:val P (eqGuard .eql t xo yo (.pointer none) (.pointer none))=some ():=val_guard_sc (fun _=>by simp) (by simp)
    have h1:val P (eqGuard .eql t xo yo (.slice none 0 0) (.slice none 0 0))=some ():=val_guard_sc (fun _=>by simp) (by simp)
    have h2:val P (eqGuard .eql t xo yo (.map none) (.map none))=some ():=val_guard_sc (fun _=>by simp) (by simp)
    have h3:val P (eqGuard .eql t xo yo .nilFunc .nilFunc)=some ():=val_guard_sc (fun _=>by simp) (by simp)
    have g0:val P (eqGuard .neq t xo yo (.pointer none) (.pointer none))=some ():=val_guard_sc (fun _=>by simp) (by simp)
    have g1:val P (eqGuard .neq t xo yo (.slice none 0 0) (.slice none 0 0))=some ():=val_guard_sc (fun _=>by simp) (by simp)
    have g2:val P (eqGuard .neq t xo yo (.map none) (.map none))=some ():=val_guard_sc (fun _=>by simp) (by simp)
    have g3:val P (eqGuard .neq t xo yo .nilFunc .nilFunc)=some ():=val_guard_sc (fun _=>by simp) (by simp)
    have eqv:∀(x:Value),(x = .pointer none∧k=0∨x = .slice none 0 0∧k=1∨x = .map none∧k=2∨x = .nilFunc∧k=3)→val P (Op.equal t x x)=some true:=by
      intro x hxk
      unfold Op.equal Op.maxDepth
      unfold Op.equalIn
      rw [val_bind,val_underlying hu]
      simp only [Option.bind_some]
      unfold typeKind at ht
      rw [hu] at ht
      rcases hxk with ⟨rfl,hk0⟩ | ⟨rfl,hk0⟩ | ⟨rfl,hk0⟩ | ⟨rfl,hk0⟩ <;> subst hk0 <;> cases u <;> simp at ht <;> rfl
    rcases nil hx with ⟨r1,rfl⟩ | ⟨r1,rfl⟩ | ⟨r1,rfl⟩ | ⟨r1,rfl⟩ <;> rcases nil hy with ⟨r2,rfl⟩ | ⟨r2,rfl⟩ | ⟨r2,rfl⟩ | ⟨r2,rfl⟩ <;> first | (exfalso; omega) | skip
    · have:=eqv (.pointer none) (.inl ⟨rfl,by omega⟩)
      refine ⟨?_,?_⟩ <;> (unfold binOp; simp only [AV.toV,Sc.toV]; rw [val_bind]; simp only [h0,g0,Option.bind_some,Go.binOp]; rw [val_bind,this]; rfl)
    · have:=eqv (.slice none 0 0) (.inr (.inl ⟨rfl,by omega⟩))
      refine ⟨?_,?_⟩ <;> (unfold binOp; simp only [AV.toV,Sc.toV]; rw [val_bind]; simp only [h1,g1,Option.bind_some,Go.binOp]; rw [val_bind,this]; rfl)
    · have:=eqv (.map none) (.inr (.inr (.inl ⟨rfl,by omega⟩)))
      refine ⟨?_,?_⟩ <;> (unfold binOp; simp only [AV.toV,Sc.toV]; rw [val_bind]; simp only [h2,g2,Option.bind_some,Go.binOp]; rw [val_bind,this]; rfl)
    · have:=eqv .nilFunc (.inr (.inr (.inr ⟨rfl,by omega⟩)))
      refine ⟨?_,?_⟩ <;> (unfold binOp; simp only [AV.toV,Sc.toV]; rw [val_bind]; simp only [h3,g3,Option.bind_some,Go.binOp]; rw [val_bind,this]; rfl)
  · rename_i a hx hy
    split at h
    case isFalse=>cases h
    rename_i hk
    simp only [Option.some.injEq] at h; subst h
    have htv:y.toV=none:=by
      have:=hk.2
      unfold AV.refKind at this
      split at this <;> first | rfl | cases this
    have hone:oneNil P t x y=true:=by
      unfold oneNil; rw [ht]; simp [hx,hk.1,hk.2]
    refine ⟨?_,?_⟩ <;> (unfold binOp; rw [htv]; cases x.toV <;> simp only [hone,if_true] <;> rfl)
  · rename_i c hx hy
    split at h
    case isFalse=>cases h
    rename_i hk
    simp only [Option.some.injEq] at h; subst h
    have htv:x.toV=none:=by
      have:=hk.2
      unfold AV.refKind at this
      split at this <;> first | rfl | cases this
    have hone:oneNil P t x y=true:=by
      unfold oneNil; rw [ht]; simp [hy,hk.1,hk.2]
    refine ⟨?_,?_⟩ <;> (unfold binOp; rw [htv]; simp only [hone,if_true] <;> rfl)
  · cases h
theorem binL_ok {op:BinOp} {t:TypeId} {k:BK} {xo yo:Operand} {x y v:AV} (hk:bkOf P t=some k) (h:binL op k x y=some v):binOp P op t xo yo x y=some v:=by
  unfold binL at h
  unfold bkOf at hk
  split at h
  · -- scalars
    split at h
    case h_2=>cases h
    rename_i a b
    obtain ⟨c,hc,rfl⟩:=map_some h
    obtain ⟨h1,h2,h3⟩:=scBin_val (P:=P) (t:=t) hc
    unfold binOp
    show (val P (do eqGuard op t xo yo a.toV b.toV; Go.binOp op t a.toV b.toV)).bind AV.ofPlain=_
    rw [val_bind,val_guard_sc h2 h3]
    simp only [Option.bind_some]
    rw [h1]
    exact ofPlain_toV (scBin_kind hc)
  · -- bools
    have hu:P.underlying t=some .bool:=by
      cases hu:P.underlying t with
      | none=>rw [hu] at hk; cases hk
      | some u =>
        rw [hu] at hk
        cases u <;> first
          | rfl
          | (simp at hk; done)
          | (dsimp only at hk
             split at hk
             · cases hk
             · obtain ⟨_,_,hq⟩:=map_some hk; cases hq)
    split at h
    case h_2=>cases h
    rename_i a b
    obtain ⟨c,hc,rfl⟩:=map_some h
    have heq:∀p q:Bool,val P (Op.equal t (.bool p) (.bool q))=some (decide (p=q)):=by
      intro p q
      unfold Op.equal Op.maxDepth
      unfold Op.equalIn
      rw [val_bind,val_underlying hu]
      cases p <;> cases q <;> rfl
    unfold blBin at hc
    split at hc
    · rename_i p q
      simp only [Option.some.injEq] at hc; subst hc
      unfold binOp
      simp only [AV.toV,Sc.toV]
      rw [val_bind,val_guard_sc (fun _=>by simp) (by simp)]
      simp only [Option.bind_some,Go.binOp]
      rw [val_bind,heq]
      rfl
    · rename_i p q
      simp only [Option.some.injEq] at hc; subst hc
      unfold binOp
      simp only [AV.toV,Sc.toV]
      rw [val_bind,val_guard_sc (fun _=>by simp) (by simp)]
      simp only [Option.bind_some,Go.binOp]
      rw [val_bind,heq]
      rfl
    · cases hc
  · -- parts
    rename_i ls
    have hl:leavesIn P 10 t=some ls∧AM.isAgg P t=true∧P.eqGuardType P.depth t=false:=by
      unfold AM.isAgg
      split at hk <;> first | (simp at hk; done) | skip
      · rename_i hu
        split at hk
        · cases hk
        · rename_i hg
          obtain ⟨l,hl,hq⟩:=map_some hk
          simp only [BK.leaf.injEq] at hq; subst hq
          rw [hu]
          exact ⟨hl,rfl,by simpa using hg⟩
      · rename_i hu
        split at hk
        · cases hk
        · rename_i hg
          obtain ⟨l,hl,hq⟩:=map_some hk
          simp only [BK.leaf.injEq] at hq; subst hq
          rw [hu]
          exact ⟨hl,rfl,by simpa using hg⟩
    split at h
    case h_2=>cases h
    rename_i cs ds
    split at h
    case isFalse=>cases h
    rename_i hf
    obtain ⟨x,y,h1,h2,h3⟩:=leaf_equal hl.1 hl.2.1 hf.1 hf.2
    unfold binOp
    rw [h1,h2]
    dsimp only
    have hg:∀op,val P (eqGuard op t xo yo (.agg x) (.agg y))=some ():=by
      intro op
      have hq : ∀ {α : Type} (s : Sem α), val P (do
          let p ←program
          let q ←program
          if (!p.eqGuardType q.depth t)=true then pure () else (do let _ ←s; pure ()):Sem Unit)=some ():=by
        intro α s
        rw [val_bind,val_program]
        simp only [Option.bind_some]
        rw [val_bind,val_program]
        simp only [Option.bind_some,hl.2.2]
        rfl
      cases op <;> first
        | rfl
        | (unfold eqGuard
           show val P (do
              let p ←program
              let q ←program
              if (!p.eqGuardType q.depth t)=true then pure () else _:Sem Unit)=some ()
           rw [val_bind,val_program]
           simp only [Option.bind_some]
           rw [val_bind,val_program]
           simp only [Option.bind_some,hl.2.2]
           rfl)
    split at h
    · simp only [Option.some.injEq] at h; subst h
      rw [val_bind,hg]
      simp only [Option.bind_some,Go.binOp]
      rw [val_bind,h3]
      rfl
    · simp only [Option.some.injEq] at h; subst h
      rw [val_bind,hg]
      simp only [Option.bind_some,Go.binOp]
      rw [val_bind,h3]
      rfl
    · cases h
  · -- references
    rename_i n
    have ht:typeKind P t=some n:=by
      unfold typeKind
      cases hu:P.underlying t with
      | none=>rw [hu] at hk; cases hk
      | some u =>
        rw [hu] at hk
        cases u <;> first
          | (simp only [Option.some.injEq,BK.ref.injEq] at hk; subst hk; rfl)
          | (simp at hk; done)
          | (dsimp only at hk
             split at hk
             · cases hk
             · obtain ⟨_,_,hq⟩:=map_some hk; cases hq)
    split at h
    · obtain ⟨b,hb,rfl⟩:=map_some h
      exact (refEq_ok ht hb).1
    · obtain ⟨b,hb,rfl⟩:=map_some h
      exact (refEq_ok ht hb).2
    · cases h
theorem unL_ok {op:UnOp} {x v:AV} (h:unL op x=some v):unOp P op x=some v:=by
  unfold unL at h
  split at h
  · simp only [Option.some.injEq] at h; subst h; rfl
  · simp only [Option.some.injEq] at h; subst h; rfl
  · simp only [Option.some.injEq] at h; subst h; rfl
  · cases h
theorem sliceL_eq {t:TypeId} {k:SK} {x:AV} {lo hi mx:Option AV} (hk:skOf P t=some k):sliceL k x lo hi mx=sliceOf P t x lo hi mx:=by
  unfold skOf at hk
  split at hk
  · rename_i hu; simp at hk; subst hk; unfold sliceL sliceOf; rw [hu]; cases x <;> first | rfl | (rename_i s; cases s <;> rfl)
  · rename_i e hu; simp at hk; subst hk; unfold sliceL sliceOf; rw [hu]; cases x <;> first | rfl | (rename_i s; cases s <;> rfl)
  · rename_i n e hu; simp at hk; subst hk; unfold sliceL sliceOf; rw [hu]; cases x <;> first | rfl | (rename_i s; cases s <;> rfl)
  · cases hk
theorem ixaL_eq {t:TypeId} {k:IK} {x i:AV} (hk:ikOf P t=some k):indexAddrL k x i=indexAddr P t x i:=by
  unfold ikOf at hk
  split at hk
  · rename_i n e hu; simp at hk; subst hk; unfold indexAddrL indexAddr
    cases i <;> first | rfl | skip
    rename_i s; cases s <;> first | rfl | skip
    rw [hu]
  · rename_i e hu; simp at hk; subst hk; unfold indexAddrL indexAddr
    cases i <;> first | rfl | skip
    rename_i s; cases s <;> first | rfl | skip
    rw [hu]; cases x <;> rfl
  · cases hk
theorem lenL_eq {t:TypeId} {k:NK} {x:AV} (hk:nkOf P t=some k):lenL k x σ=lenOf P t x σ:=by
  unfold nkOf at hk
  split at hk
  · rename_i hu; simp at hk; subst hk; unfold lenL lenOf; rw [hu]; cases x <;> first | rfl | (rename_i s; cases s <;> rfl)
  · rename_i hu; simp at hk; subst hk; unfold lenL lenOf; rw [hu]; cases x <;> first | rfl | (rename_i s; cases s <;> rfl)
  · rename_i hu; simp at hk; subst hk; unfold lenL lenOf; rw [hu]; cases x <;> first | rfl | (rename_i s; cases s <;> rfl)
  · rename_i hu; simp at hk; subst hk; unfold lenL lenOf; rw [hu]; cases x <;> first | rfl | (rename_i s; cases s <;> rfl)
  · cases hk
theorem srcL_ok {t:TypeId} {b:Bool} {x:AV} (h:srcKind P t=some b) (hx:srcL b x=true):srcOK P (some t) x=true:=by
  unfold srcKind at h
  unfold srcOK
  dsimp only
  split at h
  · rename_i hu; simp at h; subst h; rw [hu]; exact hx
  · rename_i hu; simp at h; subst h; rw [hu]; exact hx
  · cases h
theorem appendL_ok {t tx:TypeId} {E:ET} {b:Bool} {s x v:AV} (he:sliceET P t=some E) (hb:srcKind P tx=some b) (h:appendL E b s x σ=some (v,σ')):append P t (some tx) s x σ=some (v,σ'):=by
  obtain ⟨e,hu,het⟩:=sliceET_some he
  obtain ⟨h1,h2,h3,h4,h5⟩:=etOf_some het
  unfold appendL at h
  split at h
  case isFalse=>cases h
  rename_i hs
  obtain ⟨items,hi,h⟩:=Option.bind_eq_some_iff.1 h
  split at h
  case isFalse=>cases h
  rename_i hlow
  unfold append
  rw [hu]
  dsimp only
  rw [srcL_ok hb hs,h1]
  simp only [Bool.and_self,Bool.not_true,Bool.false_eq_true,if_false]
  rw [←elemsL_eq h3 h2,hi]
  dsimp only
  rw [hlow]
  simp only [Bool.not_true,Bool.false_eq_true,if_false,h2,h4]
  unfold appItems at h
  cases s with
  | s x =>
    cases x with
    | nilS=>exact h
    | _=>cases h
  | list fl sz es =>
    dsimp only at h ⊢
    by_cases hsz:sz≠E.c
    · rw [if_pos hsz] at h; cases h
    · rw [if_neg hsz] at h ⊢
      by_cases hem:items.isEmpty=true
      · rw [if_pos hem] at h ⊢; exact h
      · rw [if_neg hem] at h ⊢
        cases fl <;> exact h
  | row r off len cap =>
    dsimp only at h ⊢
    split at h
    · rename_i hc
      rw [if_pos ⟨hc.1,by have:=hc.2; intro e; rw [e] at this; cases this⟩]
      exact h
    · cases h
  | _=>cases h
theorem copyL_ok {t tx:TypeId} {E:ET} {b:Bool} {d x v:AV} (he:sliceET P t=some E) (hb:srcKind P tx=some b) (h:copyL E b d x σ=some (v,σ')):copyTo P t (some tx) d x σ=some (v,σ'):=by
  obtain ⟨e,hu,het⟩:=sliceET_some he
  obtain ⟨h1,h2,h3,h4,h5⟩:=etOf_some het
  unfold copyL at h
  split at h
  case isFalse=>cases h
  rename_i hs
  unfold copyTo
  rw [hu]
  dsimp only
  rw [srcL_ok hb hs,h1]
  simp only [Bool.and_self,Bool.not_true,Bool.false_eq_true,if_false]
  rw [←elemsL_eq h3 h2]
  split at h
  · rename_i r off len cap items hi
    rw [hi]; exact h
  · cases h
theorem clearL_ok {t:TypeId} {E:ET} {v:AV} (he:sliceET P t=some E) (h:clearL E v σ=some σ'):clearA P t v σ=some σ':=by
  obtain ⟨e,hu,het⟩:=sliceET_some he
  obtain ⟨h1,h2,h3,h4,h5⟩:=etOf_some het
  unfold clearL at h
  unfold clearA
  rw [hu]
  split at h
  · dsimp only
    rw [h5]
    simp only [Option.bind_some,h1,if_true]; exact h
  · exact h
  · exact h
  · cases h
theorem mkslL_ok {t:TypeId} {E:ET} {azz hp:Bool} {l c v:AV} (he:sliceET P t=some E) (h:mkslL azz hp E l c σ=some (v,σ')):makeSlice P azz hp t l c σ=some (v,σ'):=by
  obtain ⟨e,hu,het⟩:=sliceET_some he
  obtain ⟨h1,h2,h3,h4,h5⟩:=etOf_some het
  unfold mkslL at h
  unfold makeSlice
  rw [hu]
  split at h
  · dsimp only
    split at h
    · rename_i hc
      rw [if_pos ⟨hc.1,hc.2.1,hc.2.2.1,by rw [h4]; exact hc.2.2.2,h1⟩,h5]
      dsimp only
      rw [h2]
      cases azz with
      | true=>exact h
      | false=>exact h
    · cases h
  · cases h
end
end Go.AM
namespace Go.AM
open Go
section
variable {P:Program} {C:CallW} {cfg:Cfg} {tr:Trees} {f:FuncId} {fr fr':Fr} {σ σ':St} {ops:Array Oper}
theorem map3 {α:Type} {o:Option α} {g:α→AV×Fr×St} {r:AV×Fr×St} (h:o.map g=some r):∃x,o=some x∧g x=r:=map_some h
theorem evL_ok {o:Oper} {l:LOp} {r:AV×Fr×St} (h:lowOp P cfg f o=some l) (he:evL l fr σ=some r):evOp noC P cfg f o fr σ=some r:=by
  obtain ⟨dst,op,ty,pos,after,guard⟩:=o
  cases op with
  | move x =>
    simp only [lowOp] at h
    simp only [evOp]
    split at h
    · rename_i ht
      rw [if_pos ht]
      cases x with
      | tmp t=>simp only [Option.some.injEq] at h; subst h; exact he
      | _=>cases h
    · rename_i ht
      rw [if_neg ht]
      split at h
      · rename_i hf
        rw [if_pos hf]
        obtain ⟨E,hE,rfl⟩:=map_some h
        simp only [evL] at he
        obtain ⟨q,hq,rfl⟩:=map3 he
        rw [seL_of] at hq
        have:=freezeL_ok (σ':=q.2) (v':=q.1) hE hq
        rw [this]; rfl
      · rename_i hf
        rw [if_neg hf]
        simp only [Option.some.injEq] at h; subst h
        simp only [evL,tkL_of] at he
        exact he
  | assign x =>
    simp only [lowOp] at h
    simp only [evOp]
    split at h
    · rename_i hf
      rw [if_pos hf]
      obtain ⟨E,hE,rfl⟩:=map_some h
      simp only [evL] at he
      obtain ⟨q,hq,rfl⟩:=map3 he
      rw [seL_of] at hq
      have:=freezeL_ok (σ':=q.2) (v':=q.1) hE hq
      rw [this]; rfl
    · rename_i hf
      rw [if_neg hf]
      simp only [Option.some.injEq] at h; subst h
      simp only [evL,tkL_of] at he
      exact he
  | pick c a b =>
    simp only [lowOp,Option.some.injEq] at h; subst h
    simp only [evL,seL_of] at he
    simp only [evOp]
    exact he
  | alloc t =>
    simp only [lowOp] at h
    obtain ⟨z,hz,rfl⟩:=map_some h
    simp only [evL] at he
    obtain ⟨q,hq,rfl⟩:=map3 he
    simp only [evOp,hz,Option.bind_some]
    rw [hq]; rfl
  | box t x =>
    simp only [lowOp,Option.some.injEq] at h; subst h
    simp only [evL,tkL_of] at he
    simp only [evOp]
    split at he
    · rename_i hf
      simp only [hf,Bool.not_true,Bool.false_eq_true,if_false]
      exact he
    · cases he
  | build t parts =>
    simp only [lowOp] at h
    cases hz:zeroA P t with
    | none=>rw [hz] at h; cases h
    | some z =>
      rw [hz] at h
      dsimp only at h
      cases hp:structPlaces P t with
      | some places =>
        rw [hp] at h
        obtain ⟨lp,hlp,rfl⟩:=map_some h
        simp only [evL] at he
        simp only [evOp,AM.build,hz,hp]
        rw [fillA_low (fr:=fr) hlp]
        obtain ⟨cs,hcs,rfl⟩:=map3 he
        rw [hcs]; rfl
      | none =>
        rw [hp] at h
        dsimp only at h
        cases hn:arrayCells P t with
        | none=>rw [hn] at h; cases h
        | some n =>
          rw [hn] at h
          obtain ⟨lp,hlp,rfl⟩:=map_some h
          simp only [evL] at he
          simp only [evOp,AM.build,hz,hp,hn]
          rw [fillA_low (fr:=fr) hlp]
          obtain ⟨cs,hcs,rfl⟩:=map3 he
          rw [hcs]; rfl
  | buildSlice t n parts =>
    simp only [lowOp] at h
    obtain ⟨E,hE,rfl⟩:=map_some h
    simp only [evL] at he
    obtain ⟨v,hv,rfl⟩:=map3 he
    simp only [evOp]
    rw [bslL_ok hE (parts:=parts.toList.map fun p=>(p.1,AM.seen fr p.2)) (v:=v) (by rw [←hv,List.map_map]; congr 1; apply List.map_congr_left; intro p _; simp [seL_of])]
    rfl
  | load t x =>
    simp only [lowOp] at h
    split at h
    · rename_i ha
      split at h
      · cases h
      · rename_i hc
        simp only [Option.some.injEq] at h; subst h
        simp only [evL,readA,seL_of] at he
        simp only [evOp,load,ha,if_neg hc]
        obtain ⟨v,hv,rfl⟩:=map3 he
        obtain ⟨cs,hcs,rfl⟩:=map_some hv
        rw [hcs]; rfl
    · rename_i ha
      simp only [Option.some.injEq] at h; subst h
      simp only [evL,seL_of] at he
      obtain ⟨q,hq,rfl⟩:=map3 he
      simp only [evOp]
      rw [load1L_ok (σ':=q.2) (v:=q.1) ha hq]; rfl
    · cases h
  | store t p x =>
    simp only [lowOp] at h
    by_cases hk:(cfg.keep f && oneT P t)=true
    · rw [if_pos hk] at h
      have hc:aggOf P t=some false∧P.cellsOf t=1:=of_decide_eq_true (Bool.and_eq_true_iff.1 hk).2
      simp only [Option.some.injEq] at h; subst h
      simp only [evL,seL_of,tkL_of] at he
      obtain ⟨q,hq,rfl⟩:=map3 he
      simp only [evOp,if_pos hk]
      rw [storeUL_ok hc.1 hc.2 hq]; rfl
    · rw [if_neg hk] at h
      simp only [Option.some.injEq] at h; subst h
      simp only [evL,seL_of,tkL_of] at he
      obtain ⟨q,hq,rfl⟩:=map3 he
      simp only [evOp,if_neg hk]
      rw [storeL_ok hq]; rfl
  | nilCheck x =>
    simp only [lowOp,Option.some.injEq] at h; subst h
    simp only [evL,seL_of] at he
    simp only [evOp]
    exact he
  | binOp op t x y t' =>
    simp only [lowOp] at h
    obtain ⟨k,hk,rfl⟩:=map_some h
    simp only [evL,seL_of] at he
    obtain ⟨v,hv,rfl⟩:=map3 he
    simp only [evOp]
    rw [binL_ok hk hv]; rfl
  | unOp op t x =>
    simp only [lowOp,Option.some.injEq] at h; subst h
    simp only [evL,seL_of] at he
    obtain ⟨v,hv,rfl⟩:=map3 he
    simp only [evOp]
    rw [unL_ok hv]; rfl
  | convert a b x =>
    simp only [lowOp] at h
    simp only [evOp,convert]
    cases ha:P.underlying a with
    | none=>rw [ha] at h; simp at h
    | some da =>
      cases hb:P.underlying b with
      | none=>rw [ha,hb] at h; cases da <;> simp at h
      | some db =>
        rw [ha,hb] at h
        cases db with
        | int k =>
          have h':some (LOp.conv (.int k) (Opd.of x))=some l:=by cases da <;> exact h
          simp only [Option.some.injEq] at h'; subst h'
          simp only [evL,seL_of] at he
          obtain ⟨v,hv,rfl⟩:=map3 he
          unfold convL at hv
          cases hx:AM.seen fr x with
          | s s=>cases s with
            | int k' n=>rw [hx] at hv; dsimp only at hv ⊢; rw [hv]; rfl
            | _=>rw [hx] at hv; cases hv
          | _=>rw [hx] at hv; cases hv
        | string =>
          cases da with
          | string =>
            simp only [Option.some.injEq] at h; subst h
            simp only [evL,seL_of] at he
            obtain ⟨v,hv,rfl⟩:=map3 he
            unfold convL at hv
            cases hx:AM.seen fr x with
            | s s=>cases s with
              | str s=>rw [hx] at hv; dsimp only at hv ⊢; rw [hv]; rfl
              | _=>rw [hx] at hv; cases hv
            | _=>rw [hx] at hv; cases hv
          | slice e =>
            dsimp only at h ⊢
            split at h
            case h_2=>cases h
            rename_i hu
            split at h
            case isFalse=>cases h
            rename_i hc
            simp only [Option.some.injEq] at h; subst h
            simp only [evL,seL_of] at he
            obtain ⟨v,hv,rfl⟩:=map3 he
            simp only [convL] at hv
            have ag:AM.isAgg P e=false:=by unfold AM.isAgg; rw [hu]
            split at hv
            case isFalse=>cases hv
            rename_i hs
            have hel:elemsL ⟨1,false,1,.undef⟩ (AM.seen fr x) σ=elems P e (AM.seen fr x) σ:=elemsL_eq (E:=⟨1,false,1,.undef⟩) ag hc _
            rw [hel] at hv
            cases hx:AM.seen fr x with
            | s s=>cases s with
              | nilS=>rw [hx] at hv hs; simp only [hs,hc,beq_self_eq_true,Bool.and_self,if_true,hu]; rw [hv]; rfl
              | _=>rw [hx] at hs; simp [AV.isSlice] at hs
            | list=>rw [hx] at hv hs; simp only [hs,hc,beq_self_eq_true,Bool.and_self,if_true,hu]; rw [hv]; rfl
            | row=>rw [hx] at hv hs; simp only [hs,hc,beq_self_eq_true,Bool.and_self,if_true,hu]; rw [hv]; rfl
            | _=>rw [hx] at hs; simp [AV.isSlice] at hs
          | _=>cases h
        | slice e =>
          cases da with
          | string =>
            dsimp only at h ⊢
            split at h
            case h_2=>cases h
            rename_i hu
            split at h
            case isFalse=>cases h
            rename_i hc
            simp only [Option.some.injEq] at h; subst h
            simp only [evL,seL_of] at he
            obtain ⟨v,hv,rfl⟩:=map3 he
            unfold convL at hv
            cases hx:AM.seen fr x with
            | s s=>cases s with
              | str s =>
                rw [hx] at hv
                dsimp only at hv ⊢
                split at hv
                · rename_i hl
                  simp only [hu]
                  rw [if_pos ⟨hl,hc.1,hc.2⟩,hv]; rfl
                · cases hv
              | _=>rw [hx] at hv; cases hv
            | _=>rw [hx] at hv; cases hv
          | _=>cases h
        | _=>cases da <;> cases h
  | makeFunc fn first captured =>
    simp only [lowOp] at h
    cases fn with
    | func g =>
      simp only [Option.some.injEq] at h; subst h
      simp only [evL,Option.some.injEq] at he
      subst he
      simp only [evOp,List.map_map,seL_fun]
      rfl
    | _=>cases h
  | makeMap t r =>
    simp only [lowOp] at h
    cases r with
    | none =>
      simp only [Option.some.injEq] at h; subst h
      simp only [evL] at he
      simp only [evOp]; exact he
    | some x =>
      dsimp only at h
      split at h
      case h_2=>cases h
      rename_i hu
      simp only [Option.some.injEq] at h; subst h
      simp only [evL,seL_of] at he
      simp only [evOp,hu]
      split at he
      · rename_i hs; rw [hs]; exact he
      · cases he
  | makeSlice t l c =>
    simp only [lowOp] at h
    obtain ⟨E,hE,rfl⟩:=map_some h
    simp only [evL,seL_of] at he
    obtain ⟨q,hq,rfl⟩:=map3 he
    simp only [evOp]
    rw [mkslL_ok (σ':=q.2) (v:=q.1) hE hq]; rfl
  | slice t x lo hi mx =>
    simp only [lowOp] at h
    obtain ⟨k,hk,rfl⟩:=map_some h
    simp only [evL,seL_of] at he
    obtain ⟨v,hv,rfl⟩:=map3 he
    rw [sliceL_eq hk] at hv
    simp only [evOp]
    have e:∀o:Option Operand,(o.map Opd.of).map (seL fr)=o.map (AM.seen fr):=fun o=>by cases o <;> simp [seL_of]
    rw [e,e,e] at hv
    rw [hv]; rfl
  | fieldAddr s x i =>
    simp only [lowOp] at h
    obtain ⟨q,hq,h⟩:=Option.bind_eq_some_iff.1 h
    split at h
    · cases h
    · rename_i hc
      simp only [Option.some.injEq] at h; subst h
      simp only [evL,seL_of] at he
      obtain ⟨v,hv,rfl⟩:=map3 he
      simp only [evOp,hq,Option.bind_some,if_neg hc]
      rw [hv]; rfl
  | field s x i =>
    simp only [lowOp] at h
    obtain ⟨q,hq,h⟩:=Option.bind_eq_some_iff.1 h
    simp only [evOp,hq,Option.bind_some]
    split at h
    · rename_i ha
      split at h
      · cases h
      · rename_i hc
        simp only [Option.some.injEq] at h; subst h
        simp only [evL,seL_of] at he
        split at he
        · rename_i cs hs
          obtain ⟨v,hv,rfl⟩:=map3 he
          rw [hs]
          simp only [partOf,ha]
          unfold partL at hv
          dsimp only at hv
          rw [hv]; rfl
        · cases he
    · rename_i ha
      simp only [Option.some.injEq] at h; subst h
      simp only [evL,seL_of] at he
      split at he
      · rename_i cs hs
        obtain ⟨v,hv,rfl⟩:=map3 he
        rw [hs]
        simp only [partOf,ha]
        unfold partL at hv
        dsimp only at hv
        rw [hv]; rfl
      · cases he
    · cases h
  | indexAddr t x ix =>
    simp only [lowOp] at h
    obtain ⟨k,hk,rfl⟩:=map_some h
    simp only [evL,seL_of] at he
    obtain ⟨v,hv,rfl⟩:=map3 he
    rw [ixaL_eq hk] at hv
    simp only [evOp]
    rw [hv]; rfl
  | index t x ix =>
    simp only [lowOp] at h
    split at h
    · rename_i hu
      simp only [Option.some.injEq] at h; subst h
      simp only [evL,seL_of] at he
      simp only [evOp,index]
      split at he
      · rename_i l k i hx hi
        rw [hi,hu,hx]
        dsimp only
        split at he
        · rename_i hc; rw [if_pos hc]; exact he
        · cases he
      · cases he
    · rename_i n e hu
      obtain ⟨ag,hag,rfl⟩:=map_some h
      simp only [evL,seL_of] at he
      simp only [evOp,index]
      split at he
      · rename_i cs k i hx hi
        rw [hi,hu,hx]
        dsimp only
        split at he
        · rename_i hc
          rw [if_pos hc]
          obtain ⟨v,hv,rfl⟩:=map3 he
          simp only [partOf,hag]
          cases ag with
          | true =>
            simp only [if_true,partL] at hv
            dsimp only
            rw [hv]; rfl
          | false =>
            simp only [Bool.false_eq_true,if_false,partL] at hv
            dsimp only
            rw [hv]; rfl
        · cases he
      · cases he
    · cases h
  | lookup t x ix ok =>
    simp only [lowOp] at h
    obtain ⟨q,hq,rfl⟩:=map_some h
    simp only [evL,seL_of] at he
    obtain ⟨v,hv,rfl⟩:=map3 he
    simp only [evOp]
    rw [lookupL_ok hq hv]; rfl
  | mapUpdate t m k v =>
    simp only [lowOp] at h
    obtain ⟨q,hq,rfl⟩:=map_some h
    simp only [evL,seL_of] at he
    obtain ⟨s,hs,rfl⟩:=map3 he
    simp only [evOp]
    rw [updateL_ok hq hs]; rfl
  | insert t m k v =>
    simp only [lowOp] at h
    obtain ⟨q,hq,rfl⟩:=map_some h
    simp only [evL,seL_of] at he
    obtain ⟨s,hs,rfl⟩:=map3 he
    simp only [evOp]
    rw [updateL_ok hq hs]; rfl
  | extract x i =>
    simp only [lowOp,Option.some.injEq] at h; subst h
    simp only [evL,seL_of] at he
    simp only [evOp]
    split at he
    · rename_i vs hs; rw [hs]; exact he
    · cases he
  | range t x =>
    simp only [lowOp] at h
    split at h
    · simp only [Option.some.injEq] at h; subst h; cases he
    · cases h
  | next x b =>
    cases b with
    | true=>simp only [lowOp] at h; cases h
    | false=>simp only [lowOp,Option.some.injEq] at h; subst h; cases he
  | entry x=>simp only [lowOp,Option.some.injEq] at h; subst h; cases he
  | call c =>
    obtain ⟨cal,args,ats⟩:=c
    simp only [lowOp] at h
    simp only [evOp]
    cases cal with
    | value g=>simp only [Option.some.injEq] at h; subst h; cases he
    | invoke r m=>cases h
    | builtin b =>
      cases b with
      | len =>
        dsimp only at h ⊢
        split at h
        · rename_i t x hat har
          rw [hat,har]
          dsimp only
          obtain ⟨k,hk,rfl⟩:=map_some h
          simp only [evL,seL_of] at he
          obtain ⟨n,hn,rfl⟩:=map3 he
          rw [lenL_eq hk] at hn
          rw [hn]; rfl
        · cases h
      | cap =>
        dsimp only at h ⊢
        split at h
        · rename_i t x hat har
          rw [hat,har]
          dsimp only
          split at h
          · rename_i hu
            simp only [Option.some.injEq] at h; subst h
            simp only [evL,seL_of] at he
            obtain ⟨n,hn,rfl⟩:=map3 he
            have:capOf P t (AM.seen fr x)=capL (AM.seen fr x):=by
              unfold capOf capL; rw [hu]
              cases AM.seen fr x with
              | s s=>cases s <;> rfl
              | list fl sz es=>cases fl <;> rfl
              | _=>rfl
            rw [this,hn]; rfl
          · cases h
        · cases h
      | append =>
        dsimp only at h ⊢
        split at h
        · rename_i t tx s x hat har
          rw [hat,har]
          dsimp only
          split at h
          · rename_i E b hE hb
            simp only [Option.some.injEq] at h; subst h
            simp only [evL,seL_of,tkL_of] at he
            obtain ⟨q,hq,rfl⟩:=map3 he
            rw [appendL_ok (σ':=q.2) (v:=q.1) hE hb hq]; rfl
          · cases h
        · cases h
      | copy =>
        dsimp only at h ⊢
        split at h
        · rename_i t tx s x hat har
          rw [hat,har]
          dsimp only
          split at h
          · rename_i E b hE hb
            simp only [Option.some.injEq] at h; subst h
            simp only [evL,seL_of] at he
            obtain ⟨q,hq,rfl⟩:=map3 he
            rw [copyL_ok (σ':=q.2) (v:=q.1) hE hb hq]; rfl
          · cases h
        · cases h
      | delete =>
        dsimp only at h ⊢
        split at h
        · rename_i t _ m k hat har
          rw [hat,har]
          dsimp only
          obtain ⟨q,hq,rfl⟩:=map_some h
          simp only [evL,seL_of] at he
          obtain ⟨s,hs,rfl⟩:=map3 he
          rw [deleteL_ok hq hs]; rfl
        · cases h
      | clear =>
        dsimp only at h ⊢
        split at h
        · rename_i t x hat har
          rw [hat,har]
          dsimp only
          obtain ⟨E,hE,rfl⟩:=map_some h
          simp only [evL,seL_of] at he
          obtain ⟨s,hs,rfl⟩:=map3 he
          rw [clearL_ok hE hs]; rfl
        · cases h
      | min =>
        dsimp only at h ⊢
        split at h
        · rename_i x y har
          simp only [Option.some.injEq] at h; subst h
          simp only [evL,seL_of] at he
          rw [har]
          simp only [List.map_cons,List.map_nil]
          unfold intOpt at he
          cases hx:AM.seen fr x with
          | s s=>cases s with
            | int k a =>
              cases hy:AM.seen fr y with
              | s s'=>cases s' with
                | int k' b=>rw [hx,hy] at he; exact he
                | _=>rw [hx,hy] at he; cases he
              | _=>rw [hx,hy] at he; cases he
            | _=>rw [hx] at he; cases he
          | _=>rw [hx] at he; cases he
        · cases h
      | max =>
        dsimp only at h ⊢
        split at h
        · rename_i x y har
          simp only [Option.some.injEq] at h; subst h
          simp only [evL,seL_of] at he
          rw [har]
          simp only [List.map_cons,List.map_nil]
          unfold intOpt at he
          cases hx:AM.seen fr x with
          | s s=>cases s with
            | int k a =>
              cases hy:AM.seen fr y with
              | s s'=>cases s' with
                | int k' b=>rw [hx,hy] at he; exact he
                | _=>rw [hx,hy] at he; cases he
              | _=>rw [hx,hy] at he; cases he
            | _=>rw [hx] at he; cases he
          | _=>rw [hx] at he; cases he
        · cases h
      | _=>cases h
  | _=>simp only [lowOp] at h <;> cases h
end
end Go.AM
namespace Go.AM
open Go
section
variable {P:Program} {C:CallW} {cfg:Cfg} {tr:Trees} {f:FuncId} {fr fr':Fr} {σ σ':St} {ops:Array Oper}
def LOp.plain:LOp→Bool
  | .call .. | .rng _ | .nxt _ | .ent _=>false
  | _=>true
theorem doL_plain {l : LOp} {K : AV → Fr → St → Prop} (hp : l.plain = true) : doL C l fr σ K = match evL l fr σ with
    | some r=>K r.1 r.2.1 r.2.2
    | none=>False:=by
  cases l <;> first | rfl | simp [LOp.plain] at hp
theorem opW_plain {o : Oper} {K : AV → Fr → St → Prop} (h1 : callOf o.op = none) (h2 : ∀ t x, o.op ≠ .range t x) (h3 : ∀ x, o.op ≠ .next x false) (h4 : ∀ x, o.op ≠ .entry x) : opW C P cfg f o fr σ K = match evOp noC P cfg f o fr σ with
    | some (v,fr',σ')=>K v fr' σ'
    | none=>False:=by
  unfold opW
  split
  · rename_i ho; exact (h2 _ _ ho).elim
  · rename_i ho; exact (h3 _ ho).elim
  · rename_i ho; exact (h4 _ ho).elim
  · rw [h1]
    split
    · rename_i hc; cases hc
    · rfl
theorem wzdc {o:Oper} {l:LOp} (h:lowOp P cfg f o=some l) (hp:l.plain=true):callOf o.op=none∧(∀t x,o.op≠.range t x)∧(∀x,o.op≠.next x false)∧(∀x,o.op≠.entry x):=by
  obtain ⟨dst,op,ty,pos,after,guard⟩:=o
  cases op with
  | range t x =>
    simp only [lowOp] at h
    split at h
    · simp only [Option.some.injEq] at h; subst h; cases hp
    · cases h
  | next x b =>
    cases b with
    | true=>simp only [lowOp] at h; cases h
    | false=>simp only [lowOp,Option.some.injEq] at h; subst h; cases hp
  | entry x=>simp only [lowOp,Option.some.injEq] at h; subst h; cases hp
  | call c =>
    obtain ⟨cal,args,ats⟩:=c
    cases cal with
    | value g=>simp only [lowOp,Option.some.injEq] at h; subst h; cases hp
    | invoke r m=>exact ⟨rfl,fun _ _=>by simp,fun _=>by simp,fun _=>by simp⟩
    | builtin b=>exact ⟨rfl,fun _ _=>by simp,fun _=>by simp,fun _=>by simp⟩
  | _=>exact ⟨rfl,fun _ _=>by simp,fun _=>by simp,fun _=>by simp⟩
theorem doL_ok {o:Oper} {l:LOp} {K:AV→Fr→St→Prop} (h:lowOp P cfg f o=some l) (hd:doL C l fr σ K):opW C P cfg f o fr σ K:=by
  by_cases hp:l.plain=true
  · obtain ⟨h1,h2,h3,h4⟩:=wzdc h hp
    rw [doL_plain hp] at hd
    rw [opW_plain h1 h2 h3 h4]
    split at hd
    · rename_i r hr
      rw [evL_ok h hr]; exact hd
    · exact hd.elim
  · obtain ⟨dst,op,ty,pos,after,guard⟩:=o
    cases op with
    | range t x =>
      simp only [lowOp] at h
      split at h
      · rename_i kT eT hu
        simp only [Option.some.injEq] at h; subst h
        simp only [doL,seL_of] at hd
        simp only [opW,hu]
        split at hd
        · rename_i hs; rw [hs]; exact hd
        · rename_i hs; rw [hs]; exact hd
        · exact hd.elim
      · cases h
    | next x b =>
      cases b with
      | true=>simp only [lowOp] at h; cases h
      | false =>
        simp only [lowOp,Option.some.injEq] at h; subst h
        simp only [doL,seL_of] at hd
        exact hd
    | entry x =>
      simp only [lowOp,Option.some.injEq] at h; subst h
      simp only [doL,seL_of] at hd
      exact hd
    | call c =>
      obtain ⟨cal,args,ats⟩:=c
      cases cal with
      | value g =>
        simp only [lowOp,Option.some.injEq] at h; subst h
        simp only [doL,seL_of,tkAllL_of] at hd
        simp only [opW,callOf]
        exact hd
      | invoke r m=>simp only [lowOp] at h; cases h
      | builtin b =>
        exfalso
        cases b
        all_goals simp only [lowOp] at h
        all_goals (repeat' split at h)
        all_goals first
          | (cases h; done)
          | (simp only [Option.some.injEq] at h; subst h; exact hp rfl)
          | (simp only [Option.map_eq_some_iff] at h; obtain ⟨_,_,hq⟩:=h; subst hq; exact hp rfl)
    | fieldAddr a b c =>
      exfalso
      simp only [lowOp] at h
      simp only [Option.bind_eq_some_iff] at h
      obtain ⟨_,_,h⟩:=h
      repeat' split at h
      all_goals first
        | (cases h; done)
        | (simp only [Option.some.injEq] at h; subst h; exact hp rfl)
        | (simp only [Option.map_eq_some_iff] at h; obtain ⟨_,_,hq⟩:=h; subst hq; exact hp rfl)
    | field a b c =>
      exfalso
      simp only [lowOp] at h
      simp only [Option.bind_eq_some_iff] at h
      obtain ⟨_,_,h⟩:=h
      repeat' split at h
      all_goals first
        | (cases h; done)
        | (simp only [Option.some.injEq] at h; subst h; exact hp rfl)
        | (simp only [Option.map_eq_some_iff] at h; obtain ⟨_,_,hq⟩:=h; subst hq; exact hp rfl)
    | _ =>
      exfalso
      simp only [lowOp] at h
      repeat' split at h
      all_goals first
        | (cases h; done)
        | (simp only [Option.some.injEq] at h; subst h; exact hp rfl)
        | (simp only [Option.map_eq_some_iff] at h; obtain ⟨_,_,hq⟩:=h; subst hq; exact hp rfl)
theorem settledL_ok {o:Oper} {l:LOp} (h:lowOp P cfg f o=some l):settledL l=(settled o.op).map Opd.of:=by
  obtain ⟨dst,op,ty,pos,after,guard⟩:=o
  cases op with
  | build t parts =>
    simp only [lowOp] at h
    repeat' split at h
    all_goals first
      | cases h
      | (obtain ⟨lp,hlp,rfl⟩:=map_some h; exact lowParts_snd hlp)
  | buildSlice t n parts =>
    simp only [lowOp] at h
    obtain ⟨E,hE,rfl⟩:=map_some h
    simp only [settledL,settled,List.map_map]
    rfl
  | call c =>
    obtain ⟨cal,args,ats⟩:=c
    cases cal with
    | value g=>simp only [lowOp,Option.some.injEq] at h; subst h; rfl
    | invoke r m=>simp only [lowOp] at h; cases h
    | builtin b =>
      cases b with
      | append =>
        simp only [lowOp] at h
        split at h
        · rename_i har
          split at h
          · simp only [Option.some.injEq] at h; subst h
            simp only [settledL,settled,har]
            rfl
          · cases h
        · cases h
      | len =>
        simp only [lowOp] at h
        split at h
        · rename_i har
          obtain ⟨_,_,rfl⟩:=map_some h
          simp only [settledL,settled,har]; rfl
        · cases h
      | cap =>
        simp only [lowOp] at h
        split at h
        · rename_i har
          split at h
          · simp only [Option.some.injEq] at h; subst h
            simp only [settledL,settled,har]; rfl
          · cases h
        · cases h
      | _ =>
        simp only [lowOp] at h
        repeat' split at h
        all_goals first
          | (cases h; done)
          | (simp only [Option.some.injEq] at h; subst h; rfl)
          | (simp only [Option.map_eq_some_iff] at h; obtain ⟨_,_,hq⟩:=h; subst hq; rfl)
  | mapUpdate t m k v=>simp only [lowOp] at h; obtain ⟨_,_,rfl⟩:=map_some h; rfl
  | insert t m k v=>simp only [lowOp] at h; obtain ⟨_,_,rfl⟩:=map_some h; rfl
  | next x b=>cases b with
    | true=>simp only [lowOp] at h; cases h
    | false=>simp only [lowOp,Option.some.injEq] at h; subst h; rfl
  | fieldAddr a b c =>
    simp only [lowOp] at h
    simp only [Option.bind_eq_some_iff] at h
    obtain ⟨_,_,h⟩:=h
    repeat' split at h
    all_goals first
      | (cases h; done)
      | (simp only [Option.some.injEq] at h; subst h; rfl)
      | (simp only [Option.map_eq_some_iff] at h; obtain ⟨_,_,hq⟩:=h; subst hq; rfl)
  | field a b c =>
    simp only [lowOp] at h
    simp only [Option.bind_eq_some_iff] at h
    obtain ⟨_,_,h⟩:=h
    repeat' split at h
    all_goals first
      | (cases h; done)
      | (simp only [Option.some.injEq] at h; subst h; rfl)
      | (simp only [Option.map_eq_some_iff] at h; obtain ⟨_,_,hq⟩:=h; subst hq; rfl)
  | _ =>
    simp only [lowOp] at h
    repeat' split at h
    all_goals first
      | (cases h; done)
      | (simp only [Option.some.injEq] at h; subst h; rfl)
      | (simp only [Option.map_eq_some_iff] at h; obtain ⟨_,_,hq⟩:=h; subst hq; rfl)
theorem guardL_ok {o:Oper} {g:Option (Nat×Bool)} (h:lowGuard ops o.guard=some g):guardL fr g=guardA ops fr o:=by
  unfold lowGuard at h
  unfold guardA
  split at h
  · rename_i hg; simp only [Option.some.injEq] at h; subst h; rw [hg]; rfl
  · rename_i j want hg
    obtain ⟨d,hd,rfl⟩:=map_some h
    rw [hg]
    dsimp only
    rw [hd]
    rfl
theorem lowStep_some {i:Nat} {s:LStep} (h:lowStep P cfg f ops i=some s):∃o,ops[i]? = some o∧lowGuard ops o.guard=some s.guard∧lowOp P cfg f o=some s.op∧s.dst=o.dst:=by
  unfold lowStep at h
  split at h
  · cases h
  · rename_i o ho
    split at h
    · rename_i g l hg hl
      simp only [Option.some.injEq] at h; subst h
      exact ⟨o,ho,hg,hl,rfl⟩
    · cases h
theorem stepL_ok {i:Nat} {s:LStep} {K:Fr→St→Prop} (h:lowStep P cfg f ops i=some s) (hs:stepL C s fr σ K):stepW C P cfg f ops i fr σ K:=by
  obtain ⟨o,ho,hg,hl,hd⟩:=lowStep_some h
  unfold stepL at hs
  unfold stepW
  rw [ho]
  dsimp only
  rw [guardL_ok hg] at hs
  cases hga:guardA ops fr o with
  | none=>rw [hga] at hs; exact hs.elim
  | some b =>
    rw [hga] at hs
    dsimp only at hs
    cases b with
    | true =>
      have:=hs.1 rfl
      rw [settledL_ok hl,settleL_of,hd] at this
      exact doL_ok hl this
    | false =>
      have:=hs.2 rfl
      rw [hd] at this
      exact this
theorem maybeS_op {s:LStep} (h:maybeS s fr=true):∃op x y,s.op = .bin op (.ref 1) x y∧isEq op=true∧maybeNil (seL fr x) (seL fr y)=true∧guardL fr s.guard=some true:=by
  unfold maybeS at h
  split at h
  · rename_i op x y hs
    simp only [Bool.and_eq_true] at h
    obtain ⟨⟨h1,h2⟩,h3⟩:=h
    refine ⟨_,_,_,hs,h1,h2,?_⟩
    split at h3
    · assumption
    · cases h3
  · cases h
theorem low_bin {o:Oper} {op:BinOp} {k:BK} {x y:Opd} (h:lowOp P cfg f o=some (.bin op k x y)):∃t x' y' u,o.op = .binOp op t x' y' u∧bkOf P t=some k∧x=Opd.of x'∧y=Opd.of y':=by
  obtain ⟨dst,op',ty,pos,after,guard⟩:=o
  cases op' with
  | binOp op' t x' y' u =>
    simp only [lowOp] at h
    obtain ⟨k',h1,h2⟩:=map_some h
    injection h2 with h2 h3 h4 h5
    subst h2; subst h3; subst h4; subst h5
    exact ⟨_,_,_,_,rfl,h1,rfl,rfl⟩
  | call c =>
    exfalso
    obtain ⟨cal,args,ats⟩:=c
    cases cal with
    | value g=>simp only [lowOp,Option.some.injEq] at h; cases h
    | invoke r m=>simp only [lowOp] at h; cases h
    | builtin b =>
      cases b
      all_goals simp only [lowOp] at h
      all_goals (repeat' split at h)
      all_goals first
        | (cases h; done)
        | (simp only [Option.some.injEq] at h; cases h; done)
        | (simp only [Option.map_eq_some_iff] at h; obtain ⟨_,_,hq⟩:=h; cases hq)
  | next x b=>cases b with
    | true=>simp only [lowOp] at h; cases h
    | false=>simp only [lowOp,Option.some.injEq] at h; cases h
  | fieldAddr a b c =>
    exfalso
    simp only [lowOp] at h
    simp only [Option.bind_eq_some_iff] at h
    obtain ⟨_,_,h⟩:=h
    repeat' split at h
    all_goals first
      | (cases h; done)
      | (simp only [Option.some.injEq] at h; cases h; done)
      | (simp only [Option.map_eq_some_iff] at h; obtain ⟨_,_,hq⟩:=h; cases hq)
  | field a b c =>
    exfalso
    simp only [lowOp] at h
    simp only [Option.bind_eq_some_iff] at h
    obtain ⟨_,_,h⟩:=h
    repeat' split at h
    all_goals first
      | (cases h; done)
      | (simp only [Option.some.injEq] at h; cases h; done)
      | (simp only [Option.map_eq_some_iff] at h; obtain ⟨_,_,hq⟩:=h; cases hq)
  | _ =>
    exfalso
    simp only [lowOp] at h
    repeat' split at h
    all_goals first
      | (cases h; done)
      | (simp only [Option.some.injEq] at h; cases h; done)
      | (simp only [Option.map_eq_some_iff] at h; obtain ⟨_,_,hq⟩:=h; cases hq)
theorem bkOf_one {t:TypeId} (h:bkOf P t=some (.ref 1)):typeKind P t=some 1:=by
  unfold bkOf at h
  unfold typeKind
  split at h <;> simp_all
  all_goals (obtain ⟨_,h⟩:=h; simp at h)
theorem maybeS_ok {i:Nat} {s:LStep} (h:lowStep P cfg f ops i=some s) (hm:maybeS s fr=true):maybeW P ops i fr=true:=by
  obtain ⟨o,ho,hg,hl,hd⟩:=lowStep_some h
  obtain ⟨op,x,y,h1,h2,h3,h4⟩:=maybeS_op hm
  rw [h1] at hl
  obtain ⟨t,x',y',u,k1,k2,rfl,rfl⟩:=low_bin hl
  unfold maybeW
  rw [ho]
  dsimp only
  rw [←guardL_ok hg,h4,k1]
  simp only [maybeOf,h2,bkOf_one k2,seL_of] at h3 ⊢
  simpa using h3
theorem seqL_ok (hC:LeC C C):∀{is:List Nat} {l:List LStep} {fr:Fr} {σ:St} {K:Fr→St→Prop},lowSteps P cfg f ops is=some l→seqL C l fr σ K→opsW C P cfg f ops is fr σ K
  | [],l,fr,σ,K,h,hs=>by simp [lowSteps] at h; subst h; exact hs
  | i :: is,l,fr,σ,K,h,hs=>by
    simp only [lowSteps] at h
    split at h
    · rename_i s l' h1 h2
      simp only [Option.some.injEq] at h; subst h
      simp only [seqL] at hs
      simp only [opsW]
      cases hm:maybeS s fr with
      | true =>
        rw [hm] at hs
        obtain ⟨o,ho,_,_,hd⟩:=lowStep_some h1
        refine .inr ⟨maybeS_ok h1 hm,fun b=>seqL_ok hC h2 ?_⟩
        have e:dstOf ops i=s.dst:=by simp [dstOf,ho,hd]
        rw [e]; exact hs b
      | false =>
        rw [hm] at hs
        exact .inl (stepW_mono hC (fun fr' σ' k=>seqL_ok hC h2 k) (stepL_ok h1 hs))
    · cases h
theorem calmL_of (x:Operand):calmL fr (Opd.of x)=calmAt fr x:=by
  cases x with
  | tmp t=>rfl
  | func g=>rfl
  | global g=>rfl
  | const v =>
    show calmL fr (match Sc.ofV v with | some x=>Opd.c x | none=>Opd.no)=true
    cases Sc.ofV v <;> rfl
theorem opds_ok {o:Oper} {l:LOp} (h:lowOp P cfg f o=some l) (hr:readerOp cfg f o=true):l.opds=o.op.operands.toList.map Opd.of:=by
  obtain ⟨dst,op,ty,pos,after,guard⟩:=o
  cases op with
  | move x =>
    simp only [readerOp,Bool.and_eq_true,Bool.not_eq_true'] at hr
    simp only [lowOp,hr.1.1,hr.1.2,Bool.false_eq_true,if_false,Option.some.injEq] at h
    subst h; rfl
  | build t parts =>
    simp only [lowOp] at h
    repeat' split at h
    all_goals first
      | cases h
      | (obtain ⟨lp, hlp, rfl⟩ := map_some h
         simp only [LOp.opds,Op.operands]
         exact lowParts_snd hlp)
  | buildSlice t n parts =>
    simp only [lowOp] at h
    obtain ⟨E,hE,rfl⟩:=map_some h
    simp only [LOp.opds,Op.operands,List.map_map]
    rfl
  | makeFunc fn first captured =>
    simp only [lowOp] at h
    cases fn with
    | func g =>
      simp only [Option.some.injEq] at h; subst h
      simp [LOp.opds,Op.operands]
    | _=>cases h
  | slice t x lo hi mx =>
    simp only [lowOp] at h
    obtain ⟨k,hk,rfl⟩:=map_some h
    simp only [LOp.opds,Op.operands]
    cases lo <;> cases hi <;> cases mx <;> simp
  | call c =>
    obtain ⟨cal,args,ats⟩:=c
    cases cal with
    | value g=>simp [readerOp] at hr
    | invoke r m=>simp [readerOp] at hr
    | builtin b =>
      cases b with
      | len =>
        simp only [lowOp] at h
        split at h
        · rename_i har
          obtain ⟨k,hk,rfl⟩:=map_some h
          simp [LOp.opds,Op.operands,Call.operands,har]
        · cases h
      | cap =>
        simp only [lowOp] at h
        split at h
        · rename_i har
          split at h
          · simp only [Option.some.injEq] at h; subst h
            simp [LOp.opds,Op.operands,Call.operands,har]
          · cases h
        · cases h
      | _=>simp [readerOp] at hr
  | load t x =>
    simp only [lowOp] at h
    repeat' split at h
    all_goals first
      | (cases h; done)
      | (simp only [Option.some.injEq] at h; subst h; rfl)
  | fieldAddr a b c =>
    simp only [lowOp] at h
    simp only [Option.bind_eq_some_iff] at h
    obtain ⟨_,_,h⟩:=h
    repeat' split at h
    all_goals first
      | (cases h; done)
      | (simp only [Option.some.injEq] at h; subst h; rfl)
      | (simp only [Option.map_eq_some_iff] at h; obtain ⟨_,_,hq⟩:=h; subst hq; rfl)
  | field a b c =>
    simp only [lowOp] at h
    simp only [Option.bind_eq_some_iff] at h
    obtain ⟨_,_,h⟩:=h
    repeat' split at h
    all_goals first
      | (cases h; done)
      | (simp only [Option.some.injEq] at h; subst h; rfl)
      | (simp only [Option.map_eq_some_iff] at h; obtain ⟨_,_,hq⟩:=h; subst hq; rfl)
  | assign x=>simp [readerOp] at hr
  | next x b=>simp [readerOp] at hr
  | _ =>
    simp only [lowOp] at h
    first
      | (simp [readerOp] at hr; done)
      | skip
    repeat' split at h
    all_goals first
      | (cases h; done)
      | (simp only [Option.some.injEq] at h; subst h; rfl)
      | (simp only [Option.map_eq_some_iff] at h; obtain ⟨_,_,hq⟩:=h; subst hq; rfl)
theorem readL_ok {i:Nat} {s:LStep} {v:AV} (h:lowStep P cfg f ops i=some s) (hr:isReader cfg f ops i=true) (hg:guardL fr s.guard=some true) (hv:readL s fr σ=some v):readV noC P cfg f ops i fr σ=some v:=by
  obtain ⟨o,ho,hgd,hl,hd⟩:=lowStep_some h
  have hro:readerOp cfg f o=true:=by unfold isReader at hr; rw [ho] at hr; exact hr
  unfold readL at hv
  unfold readV
  rw [ho]
  dsimp only
  rw [←guardL_ok hgd,hg]
  dsimp only
  split at hv
  case isFalse=>cases hv
  rename_i hc
  rw [opds_ok hl hro] at hc
  have hc':(o.op.operands.toList.all (calmAt fr))=true:=by
    rw [List.all_map] at hc
    rw [←hc]
    congr 1
    funext x; exact (calmL_of x).symm
  rw [hro,hc']
  simp only [Bool.and_self,if_true]
  obtain ⟨r,hr1,rfl⟩:=map_some hv
  rw [evL_ok hl hr1]
  rfl
theorem readL_skip {i:Nat} {s:LStep} (h:lowStep P cfg f ops i=some s) (hg:guardL fr s.guard=some false):readV noC P cfg f ops i fr σ=some (.tup []):=by
  obtain ⟨o,ho,hgd,hl,hd⟩:=lowStep_some h
  unfold readV
  rw [ho]
  dsimp only
  rw [←guardL_ok hgd,hg]
theorem dep_ok {i:Nat} {s:LStep} (h:lowStep P cfg f ops i=some s) (hr:isReader cfg f ops i=true) (hd:depA ops i fr=true):depL fr s.op=true:=by
  obtain ⟨o,ho,hgd,hl,hdst⟩:=lowStep_some h
  have hro:readerOp cfg f o=true:=by unfold isReader at hr; rw [ho] at hr; exact hr
  obtain ⟨dst,op,ty,pos,after,guard⟩:=o
  unfold depA at hd
  rw [ho] at hd
  dsimp only at hd
  cases op with
  | load t x =>
    simp only [lowOp] at hl
    repeat' split at hl
    all_goals first
      | cases hl
      | (simp only [Option.some.injEq] at hl; rw [←hl]; simp only [depL,seL_of]; exact hd)
  | lookup t x ix ok=>simp only [lowOp] at hl; obtain ⟨_,_,hq⟩:=map_some hl; rw [←hq]; rfl
  | convert a b x =>
    simp only [lowOp] at hl
    repeat' split at hl
    all_goals first
      | cases hl
      | (simp only [Option.some.injEq] at hl; rw [←hl]; simp only [depL,seL_of]; exact hd)
  | call c =>
    obtain ⟨cal,args,ats⟩:=c
    cases cal with
    | value g=>simp [readerOp] at hro
    | invoke r m=>simp [readerOp] at hro
    | builtin b =>
      cases b with
      | len =>
        simp only [lowOp] at hl
        split at hl
        · rename_i x hat har
          obtain ⟨k,hk,hq⟩:=map_some hl
          rw [←hq]
          have ha0:args[0]? = some x:=by rw [←Array.getElem?_toList,har]; rfl
          simp only [depL,seL_of]
          dsimp only at hd
          rw [ha0] at hd
          exact hd
        · cases hl
      | cap =>
        simp only [lowOp] at hl
        split at hl
        · rename_i t x hat har
          split at hl
          · simp only [Option.some.injEq] at hl
            have ha0:args[0]? = some x:=by rw [←Array.getElem?_toList,har]; rfl
            dsimp only at hd
            rw [ha0] at hd
            rw [←hl]
            simp only [depL,seL_of]
            exact hd
          · cases hl
        · cases hl
      | _=>simp [readerOp] at hro
  | _=>simp at hd
end
end Go.AM
namespace Go.AM
open Go
section
variable {P:Program} {C:CallW} {cfg:Cfg} {tr:Trees} {f:FuncId} {fr fr':Fr} {σ σ':St} {ops:Array Oper}
def Cov (ops:Array Oper) (t:PT) (cl:List LChk) (cw:List (Nat×(St→Bool))):Prop :=
  ∀c∈cw,(∃d∈cl,d.i=c.1∧∀σ,d.ok σ=true→c.2 σ=true)∨(∀j∈t.movers,hangs ops j c.1=true)∨∀σ,c.2 σ=true
theorem planL_ok (hC:LeC C C):∀(t:PT) (lt:LT),lowTree P cfg f ops t=some lt→∀(fr:Fr) (σ:St) (cl:List LChk) (cw:List (Nat×(St→Bool))) (K:Fr→St→Prop),Cov ops t cl cw→planL C lt fr σ cl K→planW C P cfg f ops t fr σ cw K
  | .done,lt,h,fr,σ,cl,cw,K,hc,hp=>by simp only [lowTree,Option.some.injEq] at h; subst h; exact hp
  | .stop,lt,h,fr,σ,cl,cw,K,hc,hp=>trivial
  | .rd i rest,lt,h,fr,σ,cl,cw,K,hc,hp=>by
    simp only [lowTree] at h
    split at h
    case isFalse=>cases h
    rename_i hr
    split at h
    case h_2=>cases h
    rename_i s t' hs ht
    simp only [Option.some.injEq] at h; subst h
    simp only [planL] at hp
    simp only [planW]
    have hdst:dstOf ops i=s.dst:=by
      obtain ⟨o,ho,_,_,hd⟩:=lowStep_some hs
      simp [dstOf,ho,hd]
    cases hg:guardL fr s.guard with
    | none=>rw [hg] at hp; exact hp.elim
    | some g =>
      rw [hg] at hp
      dsimp only at hp
      cases g with
      | true =>
        have hp1:=hp.1 rfl
        cases hv:readL s fr σ with
        | none=>rw [hv] at hp1; exact hp1.elim
        | some v =>
          rw [hv] at hp1
          dsimp only at hp1
          rw [readL_ok hs hr hg hv]
          dsimp only
          rw [hdst]
          refine planL_ok hC rest t' ht _ _ _ _ K ?_ hp1
          have old:∀c∈cw,(∃d∈(if ((rest.movers.any fun j => !hangs ops j i) && depL fr s.op)=true then (⟨i,s,fr,v⟩:LChk) :: cl else cl),d.i=c.1∧∀σ,d.ok σ=true→c.2 σ=true)∨(∀j∈rest.movers,hangs ops j c.1=true)∨∀σ,c.2 σ=true:=by
            intro c hcm
            rcases hc c hcm with ⟨d,hd,h1⟩ | h1 | h1
            · left
              refine ⟨d,?_,h1⟩
              split
              · exact List.mem_cons_of_mem _ hd
              · exact hd
            · exact .inr (.inl h1)
            · exact .inr (.inr h1)
          by_cases hdep:depA ops i fr=true
          · rw [if_pos hdep]
            intro c hcm
            rcases List.mem_cons.1 hcm with rfl | hcm
            · by_cases hck:(rest.movers.any fun j => !hangs ops j i)=true
              · left
                rw [hck,dep_ok hs hr hdep]
                simp only [Bool.and_self,if_true]
                refine ⟨⟨i,s,fr,v⟩,List.mem_cons_self,rfl,fun σ' hok => ?_⟩
                simp only [LChk.ok,hg] at hok
                unfold sameV at hok ⊢
                split at hok
                · rename_i u hu
                  rw [readL_ok hs hr hg hu]; exact hok
                · cases hok
              · right; left
                intro j hj
                have:(rest.movers.any fun j => !hangs ops j i)=false:=by simpa using hck
                rw [List.any_eq_false] at this
                have:=this j hj
                simpa using this
            · exact old c hcm
          · rw [if_neg hdep]
            exact old
      | false =>
        have hp2:=hp.2 rfl
        rw [readL_skip hs hg]
        dsimp only
        rw [hdst]
        refine planL_ok hC rest t' ht _ _ _ _ K ?_ hp2
        by_cases hdep:depA ops i fr=true
        · rw [if_pos hdep]
          intro c hcm
          rcases List.mem_cons.1 hcm with rfl | hcm
          · right; right
            intro σ'
            simp only [readL_skip hs hg,sameV,beq_refl]
          · exact hc c hcm
        · rw [if_neg hdep]; exact hc
  | .mv i rest alt,lt,h,fr,σ,cl,cw,K,hc,hp=>by
    simp only [lowTree] at h
    split at h
    case h_2=>cases h
    rename_i s t' u' hs ht hu
    simp only [Option.some.injEq] at h; subst h
    simp only [planL] at hp
    simp only [planW]
    have hdrop:∀k,((List.range ops.size).filter fun k=>hangs ops i k).contains k=true→hangs ops i k=true:=by
      intro k hk
      simp only [List.contains_iff_mem,List.mem_filter] at hk
      exact hk.2
    refine ⟨stepW_mono hC (fun fr' σ' k => ?_) (stepL_ok hs hp.1),planL_ok hC alt u' hu _ _ _ _ K (fun c hcm => ?_) hp.2⟩
    · obtain ⟨k1,k2⟩:=k
      rw [List.all_eq_true] at k1
      refine ⟨?_,planL_ok hC rest t' ht _ _ _ _ K (fun c hcm => ?_) k2⟩
      · rw [List.all_eq_true]
        intro c hcm
        obtain ⟨h1,h2⟩:=List.mem_filter.1 hcm
        have h2':hangs ops i c.1=false:=by simpa using h2
        rcases hc c h1 with ⟨d,hd,h3,h4⟩ | h3 | h3
        · refine h4 σ' (k1 d (List.mem_filter.2 ⟨hd,?_⟩))
          cases hk:((List.range ops.size).filter fun k=>hangs ops i k).contains d.i with
          | false=>rfl
          | true=>rw [h3] at hk; rw [hdrop _ hk] at h2'; cases h2'
        · have:=h3 i (by simp [PT.movers])
          rw [this] at h2'; cases h2'
        · exact h3 σ'
      · obtain ⟨h1,h2⟩:=List.mem_filter.1 hcm
        have h2':hangs ops i c.1=false:=by simpa using h2
        rcases hc c h1 with ⟨d,hd,h3,h4⟩ | h3 | h3
        · left
          refine ⟨d,List.mem_filter.2 ⟨hd,?_⟩,h3,h4⟩
          cases hk:((List.range ops.size).filter fun k=>hangs ops i k).contains d.i with
          | false=>rfl
          | true=>rw [h3] at hk; rw [hdrop _ hk] at h2'; cases h2'
        · exact .inr (.inl fun j hj=>h3 j (by simp [PT.movers,hj]))
        · exact .inr (.inr h3)
    · rcases hc c hcm with h3 | h3 | h3
      · exact .inl h3
      · exact .inr (.inl fun j hj=>h3 j (by simp [PT.movers,hj]))
      · exact .inr (.inr h3)
theorem execL_ok (hC:LeC C C) {rd:Bool}:∀(c:Code) (k:Nat) (fr:Fr) (σ:St) (K:KC),execL C P rd (lowCode P cfg tr f k c) fr σ K→codeW C P cfg tr rd f k c fr σ K
  | .skip,k,fr,σ,K,h=>h
  | .region id ops false,k,fr,σ,K,h=>by
    simp only [lowCode] at h
    simp only [codeW]
    split at h
    · rename_i l hl
      exact seqL_ok hC hl h
    · exact h.elim
  | .region id ops true,k,fr,σ,K,h=>by
    simp only [lowCode] at h
    simp only [codeW]
    split at h
    · exact h.elim
    · rename_i hst
      split at h
      · rename_i t ht
        exact ⟨by simpa using hst,planL_ok hC _ t ht _ _ [] [] _ (fun c hc=>by cases hc) h⟩
      · exact h.elim
  | .seq a b,k,fr,σ,K,h=>by
    simp only [lowCode,execL] at h
    simp only [codeW]
    exact codeW_mono hC a (roundK_mono (fun fr s h=>execL_ok hC b k fr s K h) fun _ _ _ h=>h) (execL_ok hC a k fr σ _ h)
  | .cond c a b,k,fr,σ,K,h=>by
    simp only [lowCode,execL,opL_of] at h
    simp only [codeW]
    split at h
    · rename_i x hx
      rw [hx]
      exact ⟨fun e=>execL_ok hC a k fr σ K (h.1 e),fun e=>execL_ok hC b k fr σ K (h.2 e)⟩
    · exact h.elim
  | .block id b,k,fr,σ,K,h=>by
    simp only [lowCode,execL] at h
    simp only [codeW]
    exact execL_ok hC b id fr σ _ h
  | .loop b,k,fr,σ,K,h=>by
    simp only [lowCode,execL] at h
    simp only [codeW]
    intro I hI
    exact h I fun fr s hu hb=>hI fr s hu (execL_ok hC b k _ _ _ hb)
  | .exit id,k,fr,σ,K,h=>h
  | .ret,k,fr,σ,K,h=>h
  | .rangeFunc g ps a b,k,fr,σ,K,h=>by
    simp only [lowCode,execL,seL_of] at h
    simp only [codeW]
    exact h
  | .label _,k,fr,σ,K,h=>by simp only [lowCode,execL] at h
  | .goto _,k,fr,σ,K,h=>by simp only [lowCode,execL] at h
  | .scope _,k,fr,σ,K,h=>by simp only [lowCode,execL] at h
  | .refuse _,k,fr,σ,K,h=>by simp only [lowCode,execL] at h
theorem lowRes_ok {r:ResultVar} {l:LR} {v:AV} (h:lowRes P r=some l) (hv:resL fr σ l=some v):resultA P fr σ r=some v:=by
  cases r with
  | tmp t=>simp only [lowRes,Option.some.injEq] at h; subst h; exact hv
  | cell a t =>
    simp only [lowRes] at h
    split at h
    · rename_i ha
      split at h
      · cases h
      · rename_i hc
        simp only [Option.some.injEq] at h; subst h
        simp only [resL,readA] at hv
        simp only [resultA,load,ha,if_neg hc]
        obtain ⟨cs,hcs,rfl⟩:=map_some hv
        rw [hcs]; rfl
    · rename_i ha
      simp only [Option.some.injEq] at h; subst h
      simp only [resL] at hv
      obtain ⟨q,hq,rfl⟩:=map_some hv
      simp only [resultA]
      rw [load1L_ok (σ':=q.2) (v:=q.1) ha hq]; rfl
    · cases h
theorem lowRess_ok:∀{rs:List ResultVar} {ls:List LR} {vs:List AV},rs.mapM (lowRes P)=some ls→ressL fr σ ls=some vs→resultsA P fr σ rs=some vs
  | [],ls,vs,h,hv=>by simp at h; subst h; exact hv
  | r :: rs,ls,vs,h,hv=>by
    simp only [List.mapM_cons,Option.pure_def,Option.bind_eq_bind,Option.bind_eq_some_iff,Option.some.injEq] at h
    obtain ⟨l,h1,ls',h2,rfl⟩:=h
    simp only [ressL] at hv
    split at hv
    · rename_i v vs' h3 h4
      simp only [resultsA,lowRes_ok h1 h3,lowRess_ok h2 h4]
      exact hv
    · cases hv
theorem finL_ok {fn:Func} {rs:List LR} {base:Nat} {K:AV→St→Prop} (h:fn.results.toList.mapM (lowRes P)=some rs):∀e fr σ,finL base rs K e fr σ→finishW P base fn K e fr σ:=by
  have main : ∀ fr σ, endL base rs K fr σ → match finish P base fn fr σ with
      | some (v,σ')=>K v σ'
      | none=>False:=by
    intro fr σ he
    unfold endL at he
    unfold finish
    cases hv:ressL fr σ rs with
    | none=>rw [hv] at he; exact he.elim
    | some vs =>
      rw [hv] at he
      rw [lowRess_ok h hv]
      cases vs with
      | nil=>dsimp only at he ⊢; rw [if_pos he.1]; exact he.2
      | cons x xs =>
        cases xs with
        | nil=>dsimp only at he ⊢; rw [if_pos he.1]; exact he.2
        | cons y ys=>dsimp only at he ⊢; rw [if_pos he.1]; exact he.2
  intro e fr σ he
  cases e with
  | exit id=>exact he.elim
  | normal=>exact main fr σ he
  | ret=>exact main fr σ he
theorem runL_ok {F:LFn} {args:List AV} {K:AV→St→Prop} (hp:cfg.prim f=none) (h:lowFn P cfg tr f=some F) (hr:runL (EvW P cfg tr) P F args σ K):EvW P cfg tr (.fn f) args σ K:=by
  refine EvW.fold ?_
  unfold unfoldW
  dsimp only
  rw [hp]
  dsimp only
  unfold lowFn at h
  unfold bodyW
  split at h
  case h_2=>cases h
  rename_i fn hf
  rw [hf]
  dsimp only
  split at h
  case h_2=>cases h
  rename_i c rs hb hrs
  simp only [Option.some.injEq] at h; subst h
  rw [hb]
  dsimp only
  unfold runL at hr
  exact codeW_mono EvW.le c (finL_ok hrs) (execL_ok EvW.le c 0 _ _ _ hr)
theorem primW {p:List AV→St→Option (AV×St)} {args:List AV} {v:AV} {K:AV→St→Prop} (hp:cfg.prim f=some p) (h:p args σ=some (v,σ')) (hK:K v σ'):EvW P cfg tr (.fn f) args σ K:=by
  refine EvW.fold ?_
  unfold unfoldW
  dsimp only
  rw [hp]
  dsimp only
  rw [h]
  exact hK
theorem loopW_fold {body : Fr → St → KC → Prop} {mask : List Bool} {n0 : Nat} {K : KC} (hmono : ∀ fr σ (K K' : KC), (∀ e fr σ, K e fr σ → K' e fr σ) → body fr σ K → body fr σ K')
    (hu:underL n0 (keep mask fr)=true) (h:body (keep mask fr) { σ with stk:=σ.stk.take n0 } (roundK (fun fr σ=>loopW body mask n0 fr σ K) K)):loopW body mask n0 fr σ K:=by
  intro I hI
  refine hI fr σ hu (hmono _ _ _ _ (roundK_mono (fun fr σ hl => ?_) fun _ _ _ h=>h) h)
  exact hl I hI
end
end Go.AM
