import Derived.Test.YtlnclcpffepfaaaM3
import Derived.Room.AppendUpon
import Derived.Laws.IdiomStrings
set_option linter.unusedSimpArgs false
set_option linter.unusedVariables false
namespace Go.AM
open Go
section
variable {P:Program} {g g':G} {w w':World} {ow ow' ow1:Own} {σ σ':St} {fr fr':Fr} {tm:Array Value} {a:Act} {dst:Option Tmp}
structure ElemInfo (P:Program) (e:TypeId) (i:TypeInfo) (zv:Value) (z:AV):Prop where
  info:P.info? e=some i
  zero:i.zero=some zv
  plain:AV.ofPlain zv=some z
  size:i.size=P.cellsOf e
  bytes:i.bytes=bytesOf P e
  pos:P.cellsOf e≠0
  bpos:bytesOf P e≠0
  zlen:z.cells.length=P.cellsOf e
  zsize:zv.cells.size=P.cellsOf e
theorem elemOK_info {e:TypeId} (h:elemOK P e=true):∃i zv z,zeroA P e=some z∧ElemInfo P e i zv z:=by
  unfold elemOK at h
  split at h
  case h_2=>cases h
  rename_i z hz
  simp only [Bool.and_eq_true,beq_iff_eq,bne_iff_ne] at h
  obtain ⟨⟨h1,h2⟩,h3⟩:=h
  obtain ⟨zv,_,k2,k3⟩:=zeroA_run hz
  cases hi:P.info? e with
  | none=>simp [hi] at k3
  | some i =>
    have hzi:i.zero=some zv:=by simpa [hi] using k3
    obtain ⟨_,j,_⟩:=ofPlain_V (g:=⟨[],[],fun _ _=>False⟩) (w:=default) k2
    exact ⟨i,zv,z,hz,hi,hzi,k2,by simp [Program.cellsOf,hi],by simp [bytesOf,hi],h2,h3,h1,by have:=j.length; simp at this; omega⟩
theorem group_cells {e : TypeId} : ∀ {n : Nat} {cs : List AV}, (isAgg P e || P.cellsOf e == 1) = true → cs.length = n * P.cellsOf e → (∀ c ∈ cs, c.isCell = true) →
    (group P e n cs).flatMap AV.cells=cs∧(group P e n cs).length=n∧Elems (P.cellsOf e) (group P e n cs)
  | 0,cs,_,hl,_=>by
    have:cs=[]:=by simpa using hl
    subst this; exact ⟨rfl,rfl,fun _ h=>by cases h⟩
  | n + 1,cs,hk,hl,hc=>by
    rw [Nat.add_mul,Nat.one_mul] at hl
    obtain ⟨h1,h2,h3⟩:=group_cells (n:=n) (cs:=cs.drop (P.cellsOf e)) hk (by rw [List.length_drop]; omega) fun c h=>hc c (List.mem_of_mem_drop h)
    have hp:(pack P e (cs.take (P.cellsOf e))).cells=cs.take (P.cellsOf e):=by
      unfold pack
      split
      · rfl
      · rename_i hna
        have h1:P.cellsOf e=1:=by simpa [hna] using hk
        rw [h1] at hl ⊢
        cases cs with
        | nil=>simp at hl
        | cons c r =>
          simp only [List.take_succ_cons,List.take_zero,List.getD_cons_zero]
          exact isCell_cells (hc c (by simp))
    have hpl:(cs.take (P.cellsOf e)).length=P.cellsOf e:=by rw [List.length_take]; omega
    refine ⟨?_,by simp [group,h2],fun x hx => ?_⟩
    · simp only [group,List.flatMap_cons,hp,h1,List.take_append_drop]
    · simp only [group,List.mem_cons] at hx
      rcases hx with rfl | hx
      · rw [hp]; exact ⟨hpl,fun c h=>hc c (List.mem_of_mem_take h)⟩
      · exact h3 x hx
theorem str_bytes (l:List UInt8):byteCells ⟨l.toArray⟩=(l.map fun b=>Value.int .u8 b.toNat):=by simp [byteCells]
theorem str_V:∀(l:List UInt8),VL g w ((l.map fun b=>AV.s (.int .u8 b.toNat)).flatMap AV.cells) (l.map fun b=>Value.int .u8 b.toNat)
  | [] => .nil
  | b :: l => .sc (.int .u8 b.toNat) (str_V l)
theorem srcOK_str {t:TypeId} {l:List UInt8} (h:srcOK P (some t) (.s (.str l))=true):P.underlying t=some .string:=by
  unfold srcOK at h
  cases hu:P.underlying t with
  | none=>simp [hu] at h
  | some d=>cases d <;> simp [hu,AV.isStr,AV.isSlice] at h ⊢
theorem srcOK_slice {t:TypeId} {x:AV} (h:srcOK P (some t) x=true) (hx:x.isStr=false):∃e,P.underlying t=some (.slice e):=by
  unfold srcOK at h
  cases hu:P.underlying t with
  | none=>simp [hu] at h
  | some d=>cases d <;> simp [hu,hx] at h ⊢
theorem elems_run (s : SS g w ow σ) {e : TypeId} {t : TypeId} {x : AV} {xv : Value} {items : List AV} (h : elems P e x σ = some items) (hk : srcOK P (some t) x = true) (hx : V g w x xv) (h0 : P.cellsOf e ≠ 0) :
    ∃news,Src P (P.cellsOf e) t xv items.length news w∧VL g w (items.flatMap AV.cells) news∧Elems (P.cellsOf e) items∧Builtin.lenOf xv=Sem.pure items.length∧∀k,k≤items.length→(Builtin.firstCells (P.cellsOf e) k xv).run P w = .ok (news.take (k * P.cellsOf e)).toArray w:=by
  unfold elems at h
  split at h
  · injection h with h; subst h
    obtain rfl:=hx.sc_inv
    obtain ⟨e',hu⟩:=srcOK_slice hk rfl
    exact ⟨[],Src.ofNil w hu 0,.nil,(fun _ h=>by cases h),rfl,fun k _=>by rw [List.take_nil]; exact run_firstCells_none w (P.cellsOf e) k 0 0⟩
  · rename_i l
    split at h
    case isFalse=>cases h
    rename_i h1
    injection h with h; subst h
    obtain rfl:=hx.sc_inv
    have hs:(ByteArray.mk l.toArray).size=l.length:=by simp [ByteArray.size]
    have hsrc:=Src.ofString (P:=P) w (srcOK_str hk) ⟨l.toArray⟩
    rw [str_bytes,hs] at hsrc
    refine ⟨_,by rw [h1,List.length_map]; exact hsrc,str_V l,fun x hx => ?_,by rw [List.length_map,←hs]; rfl,fun k hk => ?_⟩
    rotate_left
    · simp only [Builtin.firstCells,Sc.toV,Sem.run_pure,h1,Nat.mul_one]
      congr 1
      apply Array.ext'
      simp [ByteArray.extract,ByteArray.copySlice,List.map_take]
    obtain ⟨b,_,rfl⟩:=List.mem_map.1 hx
    rw [h1]; exact ⟨rfl,fun c hc=>by simp [AV.cells] at hc; subst hc; rfl⟩
  · rename_i fl sz es
    split at h
    case isFalse=>cases h
    rename_i h1
    injection h with h; subst h; subst h1
    obtain ⟨e',hu⟩:=srcOK_slice hk rfl
    cases hx with
    | lnil _ _=>exact ⟨[],Src.ofNil w hu 0,.nil,(fun _ h=>by cases h),rfl,fun k _=>by rw [List.take_nil]; exact run_firstCells_none w (P.cellsOf e) k 0 0⟩
    | @list _ _ _ ad len cap xs _ _ k1 k2 k3 k4 k5 k6 k7 k8 k9 _ =>
    subst k2
    have hc:∀c∈es.flatMap AV.cells,c.isCell=true:=fun c hc=>by
      obtain ⟨x,hx,hcx⟩:=List.mem_flatMap.1 hc
      exact (k6 x hx).2 c hcx
    have kk:∀j u,xs[j]? = some u→w.cell? (ad.add j)=some u:=fun j u hj=>by
      rcases k5 with rfl | k5
      · have:=k8.length; simp at this; rw [this] at hj; cases hj
      · rw [add_spot k5]; exact (k9 j u hj).1
    refine ⟨xs,Src.ofSlice w hu ad es.length cap xs (by rw [k8.length,elems_length fun x hx=>(k6 x hx).1]) kk ((Cells.one' (Cells.of (ro:=Nobody) k8 hc))),k8,k6,rfl,fun k hk => ?_⟩
    refine run_firstCells_some w _ k ad es.length cap (xs.take (k * P.cellsOf e)) ?_ fun j u hj => ?_
    · rw [List.length_take,k8.length,elems_length fun x hx=>(k6 x hx).1,Nat.min_eq_left (Nat.mul_le_mul_right _ hk)]
    · rw [List.getElem?_take] at hj
      split at hj
      · exact kk j u hj
      · cases hj
  · rename_i r off len cap
    split at h
    case isFalse=>cases h
    rename_i hg
    cases hr:readCells σ (.ptr r off) (len * P.cellsOf e) with
    | none=>simp [hr] at h
    | some cs =>
      simp [hr] at h; subst h
      obtain ⟨e',hu⟩:=srcOK_slice hk rfl
      obtain ⟨b,c,rfl,hb,h1,h2⟩:=hx.row_inv
      obtain ⟨ad,xs,hpv,h3,h4,h5,h6,h7⟩:=read_run s hr (.ptr hb .nil)
      injection hpv with hpv; injection hpv with hpv; subst hpv
      obtain ⟨g1,g2,g3⟩:=group_cells hg h4 h6
      rw [g2]
      refine ⟨xs,Src.ofSlice w hu _ len c xs (by rw [h5.length,h4]) h7 ((Cells.one' (Cells.of (ro:=Nobody) h5 h6))),by rw [g1]; exact h5,g3,rfl,fun k hk => ?_⟩
      refine run_firstCells_some w _ k _ len c (xs.take (k * P.cellsOf e)) ?_ fun j u hj => ?_
      · rw [List.length_take,h5.length,h4,Nat.min_eq_left (Nat.mul_le_mul_right _ hk)]
      · rw [List.getElem?_take] at hj
        split at hj
        · exact h7 j u hj
        · cases hj
  · cases h
theorem Out.wider {v:AV} {val:Value} (h:∃g' ow',Out g w ow1 dst v fr σ tm g' w' ow' val) (hall:∀p b o,ow1 p b o→ow p b o):∃g' ow',Out g w ow dst v fr σ tm g' w' ow' val:=by
  obtain ⟨g',ow',h⟩:=h
  have hm:∀b o,May g ow1 b o→May g ow b o:=fun b o h=>by
    rcases h with h | ⟨p,h⟩
    · exact .inl h
    · exact .own (hall _ _ _ h)
  exact ⟨g',ow',h.rel,h.tr.weaken hm,fun b o h'=>(h.may b o h').imp (hm b o) id,fun b o h'=>(h.keep b o h').imp (hm b o) id,h.hbn⟩
theorem append_grow_out {t tx ty e : TypeId} {i : TypeInfo} {zv : Value} {z : AV} (I : ElemInfo P e i zv z) (ht : P.underlying t = some (.slice e)) {base : Option Addr} {sLen sCap : Nat} {olds news : List Value} {es items : List AV} {x : Value}
    (r:Rel g w ow1 fr tm σ) (hold:(Builtin.firstCells (P.cellsOf e) sLen (.slice base sLen sCap)).run P w.drew = .ok olds.toArray w.drew) (hs:Src P (P.cellsOf e) tx x items.length news w)
    (ho:VL g w (es.flatMap AV.cells) olds) (hn:VL g w (items.flatMap AV.cells) news) (he:Elems (P.cellsOf e) es) (hi:Elems (P.cellsOf e) items) (hle:AV.under.go 0 es=true) (hli:AV.under.go 0 items=true) (hsl:sLen=es.length)
    (hg:sCap < sLen + items.length) (hfit:Builtin.nextslicecap (sLen + items.length) sCap * bytesOf P e≤2 ^ 48) (hall:∀p b o,ow1 p b o→ow p b o) :
    ∃val w',(Builtin.append_ #[t,tx] ty #[.slice base sLen sCap,x]).run P w = .ok val w'∧(∃g' ow',Out g w ow dst (.list .uniq (P.cellsOf e) (es ++ items)) fr σ tm g' w' ow' val)∧(∃g' ow',Out g w ow dst (.list .own (P.cellsOf e) (es ++ items)) fr σ tm g' w' ow' val):=by
  have hb:0 < bytesOf P e:=Nat.pos_of_ne_zero I.bpos
  have hneed:sLen + items.length≤Builtin.nextslicecap (sLen + items.length) sCap:=le_nextslicecap hg
  have h63:((sLen + items.length:Nat):Int)≤9223372036854775807:=by
    have h1:Builtin.nextslicecap (sLen + items.length) sCap * 1≤Builtin.nextslicecap (sLen + items.length) sCap * bytesOf P e:=Nat.mul_le_mul_left _ hb
    omega
  have hrun:=run_append_grow_src (P:=P) w t tx ty e i zv ht I.info I.zero base sLen sCap olds (by rw [I.size]; exact hold) x items.length news (by rw [I.size]; exact hs) hg h63 (by rw [I.bytes]; simpa using hfit)
  refine ⟨_,_,hrun,?_⟩
  have hge:=grownCap_ge w (sLen + items.length) sCap e
  generalize grownCap w (sLen + items.length) sCap e=cap at hge
  have hrest:(olds ++ news ++ (Builtin.zeroCells zv.cells (cap - (sLen + items.length))).toList).length=cap * P.cellsOf e:=by
    have hz:(Builtin.zeroCells zv.cells (cap - (sLen + items.length))).toList.length=(cap - (sLen + items.length)) * P.cellsOf e:=by rw [Array.length_toList,size_zeroCells,I.zsize]
    have ho':=ho.length
    have hn':=hn.length
    rw [elems_length fun x h=>(he x h).1] at ho'
    rw [elems_length fun x h=>(hi x h).1] at hn'
    rw [List.length_append,List.length_append,ho',hn',hz,←Nat.add_mul,←Nat.add_mul,←hsl]
    congr 1; omega
  have hel:(es ++ items).length=sLen + items.length:=by rw [List.length_append,hsl]
  have hw:(w.drew.alloc (.cells ((olds ++ news).toArray ++ Builtin.zeroCells zv.cells (cap - (sLen + items.length))) e)).heap=w.heap.push (.cells (olds ++ news ++ (Builtin.zeroCells zv.cells (cap - (sLen + items.length))).toList).toArray e):=by
    show w.heap.push _=_
    congr 2
    apply Array.ext'
    simp
  obtain ⟨wr',ro,k1,k2,k3,k4,k5,k7,k6⟩:=r.fresh (sz:=P.cellsOf e) (cap:=cap) (es:=es ++ items) (xs:=olds ++ news) (rest:=(Builtin.zeroCells zv.cells (cap - (sLen + items.length))).toList) (E:=e) (fz:=(0,0)) (Nat.pos_of_ne_zero I.pos) (he.app hi) (by rw [under_app,hle,hli]; rfl)
    (by rw [List.flatMap_append]; exact ho.app hn) (by rw [hel]; exact hge) hrest (by intro o _; simp) hw
  rw [hel] at k6
  exact ⟨Out.wider (Out.new k1 k2 k3 k4 k5 k7 k6) hall,Out.wider (Out.calm k1 k2 k3 k4 k5 k7 r.ss.lt k6 fun _ _ h=>h) hall⟩
theorem room_out {t tx ty e : TypeId} {i : TypeInfo} {zv : Value} {z : AV} (I : ElemInfo P e i zv z) (ht : P.underlying t = some (.slice e)) {ad : Addr} {sLen sCap : Nat} {news : List Value} {x : Value} {n : Nat} (hsp : ad.spot = none) (hs : Src P (P.cellsOf e) tx x n news w) (hroom : sLen + n ≤ sCap)
    (hc:∀j,j < news.length→(w.cell? ⟨ad.block,ad.off + sLen * P.cellsOf e + j,none⟩).isSome=true) (hf:∀j,j < news.length→w.frozen? ⟨ad.block,ad.off + sLen * P.cellsOf e + j,none⟩=false) :
    (Builtin.append_ #[t,tx] ty #[.slice (some ad) sLen sCap,x]).run P w = .ok (.slice (some ad) (sLen + n) sCap) (w.setCells ad.block (ad.off + sLen * P.cellsOf e) news):=by
  obtain ⟨b,off,sp⟩:=ad
  dsimp only at hsp; subst hsp
  have:=run_append_room_src (P:=P) w t tx ty e i ht I.info b off sLen sCap x n news (by rw [I.size]; exact hs) hroom (by rw [I.size]; exact hc) (by rw [I.size]; exact hf)
  rw [I.size] at this
  exact this
theorem append_out (r : Rel g w ow fr a.tmps σ) {so xo : Operand} {t tx ty : TypeId} {v : AV} (h : AM.append P t (some tx) (taken true fr so).1 (seen (taken true fr so).2 xo) σ = some (v, σ')) :
    ∃val w',(Builtin.append_ #[t,tx] ty #[a.eval so,a.eval xo]).run P w = .ok val w'∧∃g' ow',Out g w ow dst v (taken true fr so).2 σ' a.tmps g' w' ow' val:=by
  obtain ⟨ow1,r1,hp1,f1,k1⟩:=taken_true r so
  have hx:=r1.sf.seen xo
  have hm1:∀b o,ownOf ow so b o→May g ow b o:=fun b o h=>by cases so <;> first | exact .own h | exact h.elim
  unfold AM.append at h
  split at h
  case h_2=>cases h
  rename_i e ht
  split at h
  · cases h
  rename_i hok
  simp only [Bool.not_eq_true',Bool.not_eq_false,Bool.and_eq_true] at hok
  obtain ⟨i,zv,z,hz,I⟩:=elemOK_info hok.2
  split at h
  · cases h
  rename_i items hit
  obtain ⟨news,hsrc,hnv,hel,hlen,_⟩:=elems_run r1.ss hit hok.1 hx I.pos
  split at h
  · cases h
  rename_i hlow
  have hlow:AV.under.go 0 items=true:=by simpa using hlow
  have hsrcD:=hsrc
  generalize hq:(taken true fr so).1=sv at h hp1
  split at h
  · -- onto nil
    have hsv:a.eval so = .slice none 0 0:=V.sc_inv hp1
    split at h
    · rename_i hemp
      have hi0:items=[]:=by simpa using hemp
      subst hi0
      simp only [Option.some.injEq,Prod.mk.injEq] at h
      obtain ⟨rfl,rfl⟩:=h
      have hn0:news=[]:=hnv.nil_left
      subst hn0
      refine ⟨.slice none 0 0,w,?_,Out.wider ⟨g,Out.pure r1 (.sc .nilS .nil)⟩ k1⟩
      rw [hsv]
      have hc0:(Builtin.firstCells (P.cellsOf e) 0 (a.eval xo)).run P w = .ok #[] w:=hsrc.cells
      rcases hsrc.kind with ⟨e',hk⟩ | hk <;> simp [Builtin.append_,run_underlying ht,run_underlying hk,sizeOf,typeInfo,I.info,I.size,hlen,hc0]
    · rename_i hemp
      split at h
      case isFalse=>cases h
      rename_i hfit
      simp only [Option.some.injEq,Prod.mk.injEq] at h
      obtain ⟨rfl,rfl⟩:=h
      have hpos:0 < items.length:=List.length_pos_iff.2 (by simpa using hemp)
      obtain ⟨val,w',j1,j2,_⟩:=append_grow_out (dst:=dst) (tx:=tx) (ty:=ty) (ow:=ow) I ht (base:=none) (sLen:=0) (sCap:=0) (olds:=[]) (es:=[]) r1 (run_firstCells_none w.drew _ 0 0 0) hsrc .nil hnv (fun _ h=>by cases h) hel rfl hlow rfl (by omega) (by rw [Nat.zero_add,nextslicecap_zero hpos]; exact hfit) k1
      exact ⟨val,w',by rw [hsv]; exact j1,j2⟩
  · rename_i fl sz es
    split at h
    · cases h
    rename_i hsz
    have hsz:sz=P.cellsOf e:=by simpa using hsz
    subst hsz
    obtain ⟨oad,cap,hsv,hle,hfull,_,hnone⟩:=V_len_slice hp1
    cases oad with
    | none =>
      obtain ⟨rfl,rfl,rfl⟩:=hnone rfl
      split at h
      case isFalse=>cases h
      rename_i hemp
      have hi0:items=[]:=by simpa using hemp
      subst hi0
      simp only [Option.some.injEq,Prod.mk.injEq] at h
      obtain ⟨rfl,rfl⟩:=h
      have hn0:news=[]:=hnv.nil_left
      subst hn0
      refine ⟨.slice none 0 0,w,?_,Out.wider ⟨g,Out.pure r1 (.lnil (by omega) .nil)⟩ k1⟩
      rw [hsv]
      have hc0:(Builtin.firstCells (P.cellsOf e) 0 (a.eval xo)).run P w = .ok #[] w:=hsrc.cells
      rcases hsrc.kind with ⟨e',hk⟩ | hk <;> simp [Builtin.append_,run_underlying ht,run_underlying hk,sizeOf,typeInfo,I.info,I.size,hlen,hc0]
    | some ad =>
    split at h
    · rename_i hemp
      have hi0:items=[]:=by simpa using hemp
      subst hi0
      simp only [Option.some.injEq,Prod.mk.injEq] at h
      obtain ⟨rfl,rfl⟩:=h
      have hn0:news=[]:=hnv.nil_left
      subst hn0
      have hrun:(Builtin.append_ #[t,tx] ty #[.slice (some ad) es.length cap,a.eval xo]).run P w = .ok (.slice (some ad) es.length cap) w:=by
        have hc0:(Builtin.firstCells (P.cellsOf e) 0 (a.eval xo)).run P w = .ok #[] w:=hsrc.cells
        rcases hsrc.kind with ⟨e',hk⟩ | hk <;> simp [Builtin.append_,run_underlying ht,run_underlying hk,sizeOf,typeInfo,I.info,I.size,hlen,hc0,hle,storeCells]
      refine ⟨.slice (some ad) es.length cap,w,by rw [hsv]; exact hrun,g,?_⟩
      rw [hsv] at hp1
      exact Out.of r1 hp1 f1 (Tr.refl _ _ _) (fun p b o h => .inl (.own (k1 _ _ _ h))) (fun b o h => .inl (hm1 _ _ h)) (fun b o h1 h2 => .inl (.inl ⟨h1,h2⟩)) (fun _ _ h => .inr h) (fun _ h => .inl h)
    · rename_i hemp
      have hpos:0 < items.length:=List.length_pos_iff.2 (by simpa using hemp)
      have view:∀{fl:Fl},V g w (.list fl (P.cellsOf e) es) (a.eval so)→∃xs,VL g w (es.flatMap AV.cells) xs∧Elems (P.cellsOf e) es∧AV.under.go 0 es=true∧(Builtin.firstCells (P.cellsOf e) es.length (.slice (some ad) es.length cap)).run P w.drew = .ok xs.toArray w.drew:=by
        intro fl hV
        rw [hsv] at hV
        cases hV with
        | @list _ _ _ _ _ _ xs _ _ c1 c2 c3 c4 c5 c6 c7 c8 c9 _ =>
        exact ⟨xs,c8,c6,c7,run_firstCells_some w.drew _ es.length ad es.length cap xs (by rw [c8.length,elems_length fun x h=>(c6 x h).1]) fun j u hj=>by
          rcases c5 with rfl | c5
          · have:=c8.length; simp at this; rw [this] at hj; cases hj
          · rw [add_spot c5]; exact (c9 j u hj).1⟩
      have big:∀{c:Nat},c < es.length + items.length→2 * (es.length + items.length) * bytesOf P e≤2 ^ 48→Builtin.nextslicecap (es.length + items.length) c * bytesOf P e≤2 ^ 48:=fun hc hb=>Nat.le_trans (Nat.mul_le_mul_right _ (nextslicecap_le hc)) hb
      cases fl with
      | sh=>simp at h
      | full =>
        obtain ⟨xs,c1,c2,c3,c4⟩:=view (fl := .full) hp1
        have hcap:=hfull rfl
        subst hcap
        simp only at h
        split at h
        · rename_i hes
          have he0:es=[]:=by simpa using hes
          subst he0
          split at h
          case isFalse=>cases h
          rename_i hfit
          simp only [Option.some.injEq,Prod.mk.injEq] at h
          obtain ⟨rfl,rfl⟩:=h
          obtain ⟨val,w',j1,j2,_⟩:=append_grow_out (dst:=dst) (tx:=tx) (ty:=ty) (ow:=ow) I ht r1 c4 hsrc c1 hnv c2 hel c3 hlow rfl (by simpa using hpos) (by simp only [List.length_nil,Nat.zero_add]; rw [nextslicecap_zero hpos]; exact hfit) k1
          exact ⟨val,w',by rw [hsv]; exact j1,j2⟩
        · split at h
          case isFalse=>cases h
          rename_i hfit
          simp only [Option.some.injEq,Prod.mk.injEq] at h
          obtain ⟨rfl,rfl⟩:=h
          obtain ⟨val,w',j1,_,j2⟩:=append_grow_out (dst:=dst) (tx:=tx) (ty:=ty) (ow:=ow) I ht r1 c4 hsrc c1 hnv c2 hel c3 hlow rfl (by omega) (big (by omega) hfit) k1
          exact ⟨val,w',by rw [hsv]; exact j1,j2⟩
      | own =>
        simp only at h
        split at h
        case isFalse=>cases h
        rename_i hfit
        simp only [Option.some.injEq,Prod.mk.injEq] at h
        obtain ⟨rfl,rfl⟩:=h
        by_cases hroom:es.length + items.length≤cap
        · rw [hsv] at hp1
          obtain ⟨_,d2,d3,d4,d5,d6,X,ro',d7,d8,d9,d10,d12,d11⟩:=r1.grow (.inl rfl) hp1 f1 hel hlow hnv hroom
          refine ⟨_,_,by rw [hsv]; exact room_out (ty:=ty) I ht d2 hsrc hroom d5 d6,g.less X,?_⟩
          exact Out.of d7 d11 d9 (d8.weaken fun b o h=>hm1 _ _ h) (fun p b o h => .inl (.own (k1 _ _ _ h))) (fun b o h => .inl (hm1 _ _ (d10 _ _ h))) (fun b o h1 h2 => .inl (.inl ⟨h1,h2.1⟩)) (fun b o h=>(Classical.em (X b o)).elim (fun hx => .inl (hm1 _ _ (d12 _ _ hx))) fun hx => .inr ⟨h,hx⟩) (fun _ h => .inl h)
        · obtain ⟨xs,c1,c2,c3,c4⟩:=view (fl := .sh) hp1.1
          obtain ⟨val,w',j1,_,j2⟩:=append_grow_out (dst:=dst) (tx:=tx) (ty:=ty) (ow:=ow) I ht r1 c4 hsrc c1 hnv c2 hel c3 hlow rfl (by omega) (big (by omega) hfit) k1
          exact ⟨val,w',by rw [hsv]; exact j1,j2⟩
      | uniq =>
        simp only at h
        split at h
        case isFalse=>cases h
        rename_i hfit
        simp only [Option.some.injEq,Prod.mk.injEq] at h
        obtain ⟨rfl,rfl⟩:=h
        by_cases hroom:es.length + items.length≤cap
        · rw [hsv] at hp1
          obtain ⟨_,d2,d3,d4,d5,d6,X,ro',d7,d8,d9,d10,d12,d11⟩:=r1.grow (.inr rfl) hp1 f1 hel hlow hnv hroom
          refine ⟨_,_,by rw [hsv]; exact room_out (ty:=ty) I ht d2 hsrc hroom d5 d6,g.less X,?_⟩
          exact Out.of d7 d11 d9 (d8.weaken fun b o h=>hm1 _ _ h) (fun p b o h => .inl (.own (k1 _ _ _ h))) (fun b o h => .inl (hm1 _ _ (d10 _ _ h))) (fun b o h1 h2 => .inl (.inl ⟨h1,h2.1⟩)) (fun b o h=>(Classical.em (X b o)).elim (fun hx => .inl (hm1 _ _ (d12 _ _ hx))) fun hx => .inr ⟨h,hx⟩) (fun _ h => .inl h)
        · obtain ⟨a',c',xs,u⟩:=hp1
          have hval:=u.val
          rw [hsv] at hval
          injection hval with e1 _ e3
          injection e1 with e1; subst e1; subst e3
          have c4:(Builtin.firstCells (P.cellsOf e) es.length (.slice (some ad) es.length cap)).run P w.drew = .ok xs.toArray w.drew :=
            run_firstCells_some w.drew _ es.length ad es.length cap xs u.len fun j v hj=>by rw [add_spot u.spot]; exact u.cell j v hj
          obtain ⟨val,w',j1,j2,_⟩:=append_grow_out (dst:=dst) (tx:=tx) (ty:=ty) (ow:=ow) I ht r1 c4 hsrc u.vl hnv u.elems hel u.low hlow rfl (by omega) (big (by omega) hfit) k1
          exact ⟨val,w',by rw [hsv]; exact j1,j2⟩
  · rename_i rf off len cap
    split at h
    case isFalse=>cases h
    rename_i hroom
    cases hw:writeCells σ rf (off + len * P.cellsOf e) (items.flatMap AV.cells) with
    | none=>simp [hw] at h
    | some σ1 =>
      simp [hw] at h
      obtain ⟨rfl,rfl⟩:=h
      have hV:V g w (.row rf off len cap) (a.eval so):=hp1
      obtain ⟨b,c,hsv,hb,h1,h2⟩:=hV.row_inv
      have hcells:∀c∈items.flatMap AV.cells,c.isCell=true:=fun c hc=>by
        obtain ⟨x,hx,hcx⟩:=List.mem_flatMap.1 hc
        exact (hel x hx).2 c hcx
      obtain ⟨d1,d2,ow',d3,d4,d5,_⟩:=r1.write hw hb (Cells.of (ro:=Nobody) hnv hcells) (Free.nobody _ _)
      refine ⟨_,_,by rw [hsv]; exact room_out (ty:=ty) (ad:=⟨b,off,none⟩) I ht rfl hsrc (by omega) d1 d2,Out.wider (g:=g) (ow1:=ow1) ⟨g,?_⟩ k1⟩
      exact Out.of d3 (PV.of (o:=Nobody) (.row hb (by omega) h2 .nil)) (Free.nobody _ _) d4 (fun p b o h=>(d5 p b o h).elim (fun h => .inl (.own h)) fun h=>h.elim) (fun b o h=>h.elim) (fun b o h1 h2 => .inl (.inl ⟨h1,h2⟩)) (fun _ _ h => .inr h) (fun _ h => .inl h)
  · cases h
end
end Go.AM
namespace Go.AM
open Go
section
variable {P:Program} {g g':G} {w w':World} {ow ow' ow1:Own} {σ σ':St} {fr fr':Fr} {tm:Array Value} {a:Act} {dst:Option Tmp}
theorem Elems.replicate {z:AV} {n k:Nat} (h:z.cells.length=n) (hc:∀c∈z.cells,c.isCell=true):Elems n (List.replicate k z):=fun e he=>by
  rw [List.eq_of_mem_replicate he]; exact ⟨h,hc⟩
theorem buildSlice_out (r : Rel g w ow fr tm σ) {t : TypeId} {len : Nat} {parts : List (Nat × AV)} {vparts : Array (Nat × Value)} {v : AV} (h : buildSlice P t len parts = some v) (hl : parts.length = vparts.toList.length)
    (hp:∀(j:Nat) p q,parts[j]? = some p→vparts.toList[j]? = some q→p.1=q.1∧V g w p.2 q.2) :
    ∃val w',(Instr.buildSlice t len vparts).run P w = .ok val w'∧∃g' ow',Out g w ow dst v fr σ tm g' w' ow' val:=by
  unfold buildSlice at h
  split at h
  case h_2=>cases h
  rename_i e ht
  split at h
  · rename_i h0
    subst h0
    split at h
    case isFalse=>cases h
    rename_i hok
    injection h with h; subst h
    obtain ⟨i,zv,z,hz,I⟩:=elemOK_info hok.1
    have hp0:vparts = #[]:=by
      have:parts=[]:=by simpa using hok.2
      subst this
      exact Array.eq_empty_of_size_eq_zero (by simpa using hl.symm)
    subst hp0
    refine ⟨.slice (some ⟨w.heap.size,0,none⟩) 0 0,w.alloc (.cells #[] e),?_,?_⟩
    · simp [Instr.buildSlice,run_underlying ht,run_sizeOf I.pos,Instr.fill,newRow,show Array.range 0 = #[] from rfl]
    · obtain ⟨wr',ro,k1,k2,k3,k4,k5,k7,k6⟩:=r.fresh (w':=w.alloc (.cells #[] e)) (sz:=P.cellsOf e) (cap:=0) (es:=[]) (xs:=[]) (rest:=[]) (E:=e) (fz:=(0,0)) (Nat.pos_of_ne_zero I.pos) (fun _ h=>by cases h) rfl .nil (Nat.le_refl _) (by simp) (by intro o _; simp) rfl
      exact Out.calm k1 k2 k3 k4 k5 k7 r.ss.lt k6 fun _ _ h=>h.toFull
  · rename_i h0
    split at h
    · cases h
    rename_i hok
    simp only [not_or,Bool.not_eq_true',Bool.not_eq_false] at hok
    split at h
    case h_2=>cases h
    rename_i z hz
    cases hf:fillE (P.cellsOf e) (List.replicate len z) parts with
    | none=>simp [hf] at h
    | some es =>
      simp [hf] at h; subst h
      obtain ⟨i,zv,z',hz',I⟩:=elemOK_info (P:=P) (e:=e) (by simpa using hok.1)
      rw [hz] at hz'; injection hz' with hz'; subst hz'
      obtain ⟨_,_,c3,c4,c5,_⟩:=ofPlain_V (g:=g) (w:=w) I.plain
      have hpos:0 < P.cellsOf e:=Nat.pos_of_ne_zero I.pos
      obtain ⟨j1,j2,j3,j4⟩:=fillE_fillA (fun x hx=>by rw [List.eq_of_mem_replicate hx]; exact I.zlen) (under_mem.2 fun x hx=>by rw [List.eq_of_mem_replicate hx]; exact c5) hf
      have hrc:∀c∈(List.replicate len z).flatMap AV.cells,c.isCell=true:=fun c hc=>by
        obtain ⟨x,hx,hcx⟩:=List.mem_flatMap.1 hc
        rw [List.eq_of_mem_replicate hx] at hcx; exact c3 c hcx
      obtain ⟨xs',f1,f2,f3⟩:=fill_run (g:=g) (w:=w) _ parts vparts.toList _ _ _ j1 hl hp (zeros_V I.plain I.zlen hpos len) hrc
      have hes:es.length=len:=by rw [j3,List.length_replicate]
      have hel:Elems (P.cellsOf e) es:=fun x hx=>⟨j2 x hx,fun c hc=>f3 c (List.mem_flatMap.2 ⟨x,hx,hc⟩)⟩
      have hrun:=run_buildSlice (P:=P) w t e len vparts xs' i zv ht I.info I.zero (by rw [I.size]; omega) (by rw [I.size]; exact Nat.mul_ne_zero h0 I.pos) (by rw [I.size]; exact f1)
      refine ⟨_,_,hrun,?_⟩
      have hxl:xs'.toList.length=len * P.cellsOf e:=by rw [f2.length,elems_length j2,hes]
      obtain ⟨wr',ro,k1,k2,k3,k4,k5,k7,k6⟩:=r.fresh (w':=w.alloc (.cells xs' e)) (sz:=P.cellsOf e) (cap:=len) (es:=es) (xs:=xs'.toList) (rest:=[]) (E:=e) (fz:=(0,0)) hpos hel j4 f2 (Nat.le_of_eq hes) (by simpa using hxl) (by intro o _; simp) (by rw [List.append_nil,Array.toArray_toList]; rfl)
      rw [hes] at k6
      exact Out.calm k1 k2 k3 k4 k5 k7 r.ss.lt k6 fun _ _ h=>h.toFull
theorem makeSlice_out (r : Rel g w ow fr tm σ) {asList hp : Bool} {t : TypeId} {l c v : AV} {lv cv : Value} (h : makeSlice P asList hp t l c σ = some (v, σ')) (hl : V g w l lv) (hc : V g w c cv) :
    ∃val w',(Instr.makeSlice t lv cv).run P w = .ok val w'∧∃g' ow',Out g w ow dst v fr σ' tm g' w' ow' val:=by
  unfold makeSlice at h
  split at h
  case h_2=>cases h
  rename_i e k1 l k2 c ht
  obtain rfl:=hl.sc_inv
  obtain rfl:=hc.sc_inv
  split at h
  case isFalse=>cases h
  rename_i hcond
  obtain ⟨h1,h2,h3,h4,h5⟩:=hcond
  obtain ⟨i,zv,z,hz,I⟩:=elemOK_info h5
  obtain ⟨_,c2,c3,c4,c5,_⟩:=ofPlain_V (g:=g) (w:=w) I.plain
  have hpos:0 < P.cellsOf e:=Nat.pos_of_ne_zero I.pos
  have hwl:IntKind.i64.wrap l=l:=by unfold IntKind.wrap; simp [IntKind.bits,IntKind.signed]; omega
  have hwc:IntKind.i64.wrap c=c:=by unfold IntKind.wrap; simp [IntKind.bits,IntKind.signed]; omega
  have hzer:∀(k:Nat),((Array.range (k * P.cellsOf e)).map (zv.cells[· % zv.cells.size]!)).size=k * P.cellsOf e:=fun k=>by simp
  have hb1:(i.bytes:Int) * c≤2 ^ 47:=by rw [I.bytes]; exact h4
  have hb1':(i.bytes:Int) * l≤2 ^ 47:=Int.le_trans (Int.mul_le_mul_of_nonneg_left h2 (by omega)) hb1
  have hbr:¬roomBytes < c.toNat * i.bytes:=by
    have:((c.toNat * i.bytes:Nat):Int)=i.bytes * c:=by rw [Int.natCast_mul,Int.toNat_of_nonneg (by omega),Int.mul_comm]
    have h':((c.toNat * i.bytes:Nat):Int)≤2 ^ 47:=by rw [this]; exact hb1
    unfold roomBytes
    omega
  have hn0:zv.cells.size≠0:=by rw [I.zsize]; exact I.pos
  have hrun:(Instr.makeSlice t (.int k1 l) (.int k2 c)).run P w = .ok (.slice (some ⟨w.heap.size,0,none⟩) l.toNat c.toNat) (w.alloc (.cells ((Array.range (c.toNat * P.cellsOf e)).map (zv.cells[· % zv.cells.size]!)) e)):=by
    have e1:¬c < 0:=by omega
    have e2:¬l < 0:=by omega
    have e3:¬c < l:=by omega
    have e4:¬(281474976710656:Int) < i.bytes * c:=by omega
    have e5:¬(281474976710656:Int) < i.bytes * l:=by omega
    by_cases hc0:c.toNat * P.cellsOf e=0
    · simp [Instr.makeSlice,run_underlying ht,asInt,asIntOf,typeInfo,I.info,hwl,hwc,e1,e2,e3,e4,e5,askRoom,hbr,run_sizeOf I.pos,hc0,newRow,show Array.range 0 = #[] from rfl]
    · simp [Instr.makeSlice,run_underlying ht,asInt,asIntOf,typeInfo,I.info,hwl,hwc,e1,e2,e3,e4,e5,askRoom,hbr,run_sizeOf I.pos,hc0,newRow,zeroValue,I.zero]
  refine ⟨_,_,hrun,?_⟩
  rw [hz] at h
  dsimp only at h
  split at h
  · -- as a list
    simp only [Option.some.injEq,Prod.mk.injEq] at h
    obtain ⟨rfl,rfl⟩:=h
    have hlc:l.toNat≤c.toNat:=by omega
    have hw0:(w.alloc (.cells ((Array.range (c.toNat * P.cellsOf e)).map (zv.cells[· % zv.cells.size]!)) e)).heap=w.heap.push (.cells ((((Array.range (c.toNat * P.cellsOf e)).map (zv.cells[· % zv.cells.size]!)).toList.take (l.toNat * P.cellsOf e)) ++ (((Array.range (c.toNat * P.cellsOf e)).map (zv.cells[· % zv.cells.size]!)).toList.drop (l.toNat * P.cellsOf e))).toArray e):=by
      rw [List.take_append_drop,Array.toArray_toList]; rfl
    have hv:=(zeros_V (g:=g) (w:=w) I.plain I.zlen hpos c.toNat).takes (l.toNat * P.cellsOf e)
    rw [←flatMap_take (fun x hx=>by rw [List.eq_of_mem_replicate hx]; exact I.zlen),List.take_replicate,Nat.min_eq_left hlc] at hv
    obtain ⟨wr',ro,k1,k2,k3,k4,k5,k7,k6⟩:=r.fresh (sz:=P.cellsOf e) (cap:=c.toNat) (es:=List.replicate l.toNat z) (E:=e) (fz:=(0,0)) hpos (Elems.replicate I.zlen c3) (under_mem.2 fun x hx=>by rw [List.eq_of_mem_replicate hx]; exact c5) hv (by simpa using hlc) (by rw [List.take_append_drop]; simp) (by intro o _; simp) hw0
    rw [List.length_replicate] at k6
    exact Out.new k1 k2 k3 k4 k5 k7 k6
  · cases hb:AM.newBox hp (List.replicate c.toNat z.cells).flatten σ with
    | none=>simp [hb] at h
    | some q =>
      obtain ⟨rf,σ1⟩:=q
      simp [hb] at h
      obtain ⟨rfl,rfl⟩:=h
      have hfl:(List.replicate c.toNat z.cells).flatten=(List.replicate c.toNat z).flatMap AV.cells:=by rw [List.flatMap_def,List.map_replicate]
      have hv:=zeros_V (g:=g) (w:=w) I.plain I.zlen hpos c.toNat
      rw [←hfl] at hv
      have hcc:∀x∈(List.replicate c.toNat z.cells).flatten,x.isCell=true:=fun x hx=>by
        obtain ⟨l',hl',hx'⟩:=List.mem_flatten.1 hx
        rw [List.eq_of_mem_replicate hl'] at hx'; exact c3 x hx'
      obtain ⟨g',ow',r',j1,j2,j3,j4,j5,j6,j7⟩:=r.newBox hb (Cells.of (ro:=Nobody) hv hcc) (Free.nobody _ _) (w':=w.alloc (.cells ((Array.range (c.toNat * P.cellsOf e)).map (zv.cells[· % zv.cells.size]!)) e)) rfl
      obtain ⟨ow'',h⟩:=Out.of (g:=g) (w:=w) (ow:=ow) (dst:=dst) (v := .row rf 0 l.toNat c.toNat) r' (PV.of (o:=Nobody) (.row j1 (by omega) (Nat.le_refl _) .nil)) (Free.nobody _ _) j2.nought (fun p b o h=>(j3 p b o h).elim (fun h => .inl (.own h)) fun h=>h.elim) (fun b o h=>h.elim) (fun b o hb hw=>by
        rcases j5 b hb with hb | hb
        · rcases j2.wr b o hw with hw | hw
          · exact .inl (.inl ⟨hb,hw⟩)
          · exact .inr hw
        · exact .inr (Nat.le_of_eq hb.symm)) (fun b o h => .inr (j6 b o h)) (fun b h=>(j7 b h).imp id fun h=>Nat.le_of_eq h.symm)
      exact ⟨g',ow'',h⟩
theorem copy_out (r : Rel g w ow fr a.tmps σ) {x d v : AV} {t tx ty : TypeId} {xv dv : Value} (h : copyTo P t (some tx) d x σ = some (v, σ')) (hx : V g w x xv) (hd : V g w d dv) :
    ∃val w',(Builtin.copy_ #[t,tx] ty #[dv,xv]).run P w = .ok val w'∧∃g' ow',Out g w ow dst v fr σ' a.tmps g' w' ow' val:=by
  unfold copyTo at h
  split at h
  case h_2=>cases h
  rename_i e ht
  split at h
  · cases h
  rename_i hok
  simp only [Bool.not_eq_true',Bool.not_eq_false,Bool.and_eq_true] at hok
  obtain ⟨i,zv,z,hz,I⟩:=elemOK_info hok.2
  split at h
  case h_2=>cases h
  rename_i rf off len cap items hit
  obtain ⟨news,hsrc,hnv,hel,hlen,hpre⟩:=elems_run r.ss hit hok.1 hx I.pos
  cases hw:writeCells σ rf off ((items.take len).flatMap AV.cells) with
  | none=>simp [hw] at h
  | some σ1 =>
    simp only [hw,Option.map_some,Option.some.injEq,Prod.mk.injEq] at h
    obtain ⟨rfl,rfl⟩:=h
    obtain ⟨b,c,rfl,hb,h1,h2⟩:=hd.row_inv
    have hcells:∀c∈(items.take len).flatMap AV.cells,c.isCell=true:=fun c hc=>by
      obtain ⟨x,hx,hcx⟩:=List.mem_flatMap.1 hc
      exact (hel x (List.mem_of_mem_take hx)).2 c hcx
    have hvt:VL g w ((items.take len).flatMap AV.cells) (news.take (len * P.cellsOf e)):=by
      rw [flatMap_take fun x hx=>(hel x hx).1]; exact hnv.takes _
    obtain ⟨j1,ow',j2,j3,j4⟩:=write_run (P:=P) r hw hb (Cells.of (ro:=Nobody) hvt hcells) (Free.nobody _ _)
    refine ⟨goInt (items.take len).length,w.setCells b off (news.take (len * P.cellsOf e)),?_,g,?_⟩
    · have hfc:=hpre (min len items.length) (Nat.min_le_right _ _)
      have htk:news.take (min len items.length * P.cellsOf e)=news.take (len * P.cellsOf e):=by
        have hnl:news.length=items.length * P.cellsOf e:=by rw [hnv.length,elems_length fun x hx=>(hel x hx).1]
        by_cases hle:items.length≤len
        · rw [Nat.min_eq_right hle,List.take_of_length_le (by omega),List.take_of_length_le (by rw [hnl]; exact Nat.mul_le_mul_right _ hle)]
        · rw [Nat.min_eq_left (by omega)]
      rw [htk] at hfc
      have hmm:items.length.min len=min len items.length:=Nat.min_comm _ _
      simp [Builtin.copy_,run_underlying ht,hlen,run_sizeOf I.pos,hmm,hfc,j1]
    · exact Out.of j2 (PV.of (o:=Nobody) (.sc (.int .i64 _) .nil)) (Free.nobody _ _) j3 (fun p b o h=>(j4 p b o h).elim (fun h => .inl (.own h)) fun h=>h.elim) (fun b o h=>h.elim) (fun b o h1 h2 => .inl (.inl ⟨h1,h2⟩)) (fun _ _ h => .inr h) (fun _ h => .inl h)
theorem zeroCells_eq (zc:Array Value) (n:Nat):Builtin.zeroCells zc n=(Array.range (n * zc.size)).map (zc[· % zc.size]!):=rfl
theorem clear_out (r : Rel g w ow fr a.tmps σ) {x : AV} {t ty : TypeId} {xv : Value} (h : clearA P t x σ = some σ') (hx : V g w x xv) :
    ∃w',(Builtin.clear_ #[t] ty #[xv]).run P w = .ok (.tuple #[]) w'∧∃g' ow',Out g w ow dst (.tup []) fr σ' a.tmps g' w' ow' (.tuple #[]):=by
  have nothing:σ'=σ→(Builtin.clear_ #[t] ty #[xv]).run P w = .ok (.tuple #[]) w→∃w',(Builtin.clear_ #[t] ty #[xv]).run P w = .ok (.tuple #[]) w'∧∃g' ow',Out g w ow dst (.tup []) fr σ' a.tmps g' w' ow' (.tuple #[]):=by
    rintro rfl h
    exact ⟨w,h,g,Out.pure r (.tup .nil .nil)⟩
  unfold clearA at h
  split at h
  · rename_i e rf off len cap ht
    obtain ⟨b,c,rfl,hb,h1,h2⟩:=hx.row_inv
    cases hz:zeroA P e with
    | none=>simp [hz] at h
    | some z =>
      simp only [hz,Option.bind_some] at h
      split at h
      case isFalse=>cases h
      rename_i hok
      obtain ⟨i,zv,z',hz',I⟩:=elemOK_info hok
      rw [hz] at hz'; injection hz' with hz'; subst hz'
      obtain ⟨_,c2,c3,c4,c5,_⟩:=ofPlain_V (g:=g) (w:=w) I.plain
      have hpos:0 < P.cellsOf e:=Nat.pos_of_ne_zero I.pos
      by_cases hl:len=0
      · subst hl
        refine nothing ?_ (by simp [Builtin.clear_,run_underlying ht])
        simp only [List.replicate_zero,List.flatten_nil] at h
        unfold writeCells at h
        cases hcs:boxOf σ rf with
        | none=>simp [hcs] at h
        | some cs =>
          simp only [hcs,Option.bind_some] at h
          split at h
          · injection h with h
            rw [←h]
            have h0:splice cs off []=cs:=by simp [splice]
            rw [h0]
            cases rf with
            | stk n =>
              simp only [boxOf] at hcs
              obtain ⟨hl,rfl⟩:=List.getElem?_eq_some_iff.1 hcs
              simp [setBox]
            | heap n =>
              simp only [boxOf] at hcs
              split at hcs
              · rename_i cs' hn
                injection hcs with hcs; subst hcs
                obtain ⟨hl,hn⟩:=List.getElem?_eq_some_iff.1 hn
                simp [setBox,←hn]
              · cases hcs
          · cases h
      · have hfl:(List.replicate len z.cells).flatten=(List.replicate len z).flatMap AV.cells:=by rw [List.flatMap_def,List.map_replicate]
        have hv:=zeros_V (g:=g) (w:=w) I.plain I.zlen hpos len
        rw [←hfl] at hv
        have hcc:∀x∈(List.replicate len z.cells).flatten,x.isCell=true:=fun x hx=>by
          obtain ⟨l',hl',hx'⟩:=List.mem_flatten.1 hx
          rw [List.eq_of_mem_replicate hl'] at hx'; exact c3 x hx'
        obtain ⟨j1,ow',j2,j3,j4⟩:=write_run (P:=P) r h hb (Cells.of (ro:=Nobody) hv hcc) (Free.nobody _ _)
        refine ⟨_,?_,g,Out.of j2 (PV.of (o:=Nobody) (.tup (xs := #[]) .nil .nil)) (Free.nobody _ _) j3 (fun p b o h=>(j4 p b o h).elim (fun h => .inl (.own h)) fun h=>h.elim) (fun b o h=>h.elim) (fun b o h1 h2 => .inl (.inl ⟨h1,h2⟩)) (fun _ _ h => .inr h) (fun _ h => .inl h)⟩
        have hze:∀w,(zeroValue e).run P w = .ok zv w:=fun w=>by simp [zeroValue,typeInfo,I.info,I.zero]
        obtain ⟨m,rfl⟩:∃m,len=m + 1:=⟨len - 1,by omega⟩
        simp only [Builtin.clear_]
        simp [run_underlying ht,hze,zeroCells_eq,I.zsize]
        rw [I.zsize] at j1
        simp at j1
        rw [j1]; rfl
  · rename_i e ht
    injection h with h
    obtain rfl:=hx.sc_inv
    exact nothing h.symm (by simp [Builtin.clear_,run_underlying ht,Sc.toV])
  · rename_i e fl sz ht
    injection h with h
    obtain ⟨ad,cap,rfl,_⟩:=V_len_slice (o:=fun _ _=>False) (PV.of hx)
    exact nothing h.symm (by cases ad <;> simp [Builtin.clear_,run_underlying ht])
  · cases h
end
end Go.AM
namespace Go.AM
open Go
section
variable {P:Program} {g g':G} {w w':World} {ow ow' ow1:Own} {σ σ':St} {fr fr':Fr} {tm:Array Value} {a:Act} {dst:Option Tmp}
theorem bytesIn_V:∀{cs:List AV} {vs:List Value} {l:List UInt8},VL g w cs vs→bytesIn cs=some l→∃ns:List Int,vs=ns.map (Value.int .u8)∧l=ns.map fun n=>UInt8.ofNat n.toNat
  | [],vs,l,h,hb=>by simp [bytesIn] at hb; subst hb; rw [h.nil_left]; exact ⟨[],rfl,rfl⟩
  | c :: cs,vs,l,h,hb=>by
    obtain ⟨v,vs',rfl,h1,h2⟩:=h.cons_left
    unfold bytesIn at hb
    split at hb
    · rename_i heq; cases heq
    · rename_i n r heq
      injection heq with e1 e2; subst e1; subst e2
      cases hr:bytesIn cs with
      | none=>simp [hr] at hb
      | some l' =>
        simp [hr] at hb; subst hb
        obtain ⟨ns,k1,k2⟩:=bytesIn_V h2 hr
        exact ⟨n :: ns,by rw [h1.sc_inv,k1]; rfl,by rw [k2]; rfl⟩
    · cases hb
theorem foldl_push:∀(ns:List Int) (r:ByteArray),ns.foldl (fun r n=>r.push (UInt8.ofNat n.toNat)) r=⟨r.data ++ (ns.map fun n=>UInt8.ofNat n.toNat).toArray⟩
  | [],r=>by simp
  | n :: ns,r=>by
    rw [List.foldl_cons,foldl_push ns]
    simp [ByteArray.push]
theorem bytesIn_cells {items:List AV} {l:List UInt8} (h:bytesIn items=some l):items.flatMap AV.cells=items:=by
  induction items generalizing l with
  | nil=>rfl
  | cons c cs ih =>
    unfold bytesIn at h
    split at h
    · rename_i heq; cases heq
    · rename_i n r heq
      injection heq with e1 e2; subst e1; subst e2
      cases hr:bytesIn cs with
      | none=>simp [hr] at h
      | some l'=>rw [List.flatMap_cons,ih hr]; rfl
    · cases h
theorem convert_out (r : Rel g w ow fr tm σ) {s d : TypeId} {z0 v : AV} {xv : Value} (h : convert P s d z0 σ = some v) (hx : V g w z0 xv) :
    ∃val w',(Go.convert s d xv).run P w = .ok val w'∧∃g' ow',Out g w ow dst v fr σ tm g' w' ow' val:=by
  unfold AM.convert at h
  split at h
  · rename_i ds k k' n hs hd
    injection h with h; subst h
    obtain rfl:=hx.sc_inv
    refine ⟨.int k (k.wrap n),w,?_,g,Out.pure r (.sc (.int k _) .nil)⟩
    simp [Go.convert,run_underlying hs,run_underlying hd,Sc.toV,Conv.intToInt]
  · rename_i ds l hs hd
    injection h with h; subst h
    obtain rfl:=hx.sc_inv
    refine ⟨_,w,?_,g,Out.pure r (.sc (.str l) .nil)⟩
    simp [Go.convert,run_underlying hs,run_underlying hd,Sc.toV]
  · rename_i e l hs hd
    split at h
    case h_2=>cases h
    rename_i he
    split at h
    case isFalse=>cases h
    rename_i hc
    injection h with h; subst h
    obtain rfl:=hx.sc_inv
    obtain ⟨hc1,hc2,hc3⟩:=hc
    have hsz:(ByteArray.mk l.toArray).size=l.length:=by simp [ByteArray.size]
    have hrun:=run_bytes_of_string (P:=P) w s d e ⟨l.toArray⟩ hs hd he
    rw [hsz] at hrun
    have hge:=grownCap_ge w l.length 0 e
    generalize grownCap w l.length 0 e=cap at hrun hge
    have hrow:(bytesRow ⟨l.toArray⟩ cap).size=cap:=by simp [bytesRow]; omega
    rw [hrow] at hrun
    refine ⟨_,_,hrun,?_⟩
    have hw:(w.drew.alloc (.cells (bytesRow ⟨l.toArray⟩ cap) e (cap,cap + 1))).heap=w.heap.push (.cells ((l.map fun (b:UInt8)=>Value.int .u8 b.toNat) ++ List.replicate (cap - l.length) (Value.int .u8 0)).toArray e (cap,cap + 1)):=by
      show w.heap.push _=_
      congr 2
      apply Array.ext'
      simp [bytesRow,hsz]
    obtain ⟨wr',ro,k1,k2,k3,k4,k5,k7,k6⟩:=r.fresh (sz:=1) (cap:=cap) (es:=l.map fun b=>AV.s (.int .u8 b.toNat)) (xs:=l.map fun b=>Value.int .u8 b.toNat) (rest:=List.replicate (cap - l.length) (Value.int .u8 0)) (E:=e) (fz:=(cap,cap + 1)) Nat.one_pos
      (fun x hx=>by obtain ⟨b,_,rfl⟩:=List.mem_map.1 hx; exact ⟨rfl,fun c hc=>by simp [AV.cells] at hc; subst hc; rfl⟩)
      (under_mem.2 fun x hx=>by obtain ⟨b,_,rfl⟩:=List.mem_map.1 hx; rfl) (str_V l) (by simpa using hge) (by simp; omega) (by intro o ho; omega) hw
    rw [List.length_map] at k6
    exact Out.new k1 k2 k3 k4 k5 k7 k6
  · rename_i z1 _ _ _ e hs hd hne
    split at h
    case h_2=>cases h
    rename_i he
    split at h
    case isFalse=>cases h
    rename_i hc
    simp only [Bool.and_eq_true,beq_iff_eq] at hc
    obtain ⟨hc1,hc2⟩:=hc
    cases hit:elems P e z1 σ with
    | none=>simp [hit] at h
    | some items =>
      simp only [hit,Option.bind_some] at h
      cases hb:bytesIn items with
      | none=>simp [hb] at h
      | some l =>
        simp only [hb,Option.map_some,Option.some.injEq] at h
        subst h
        obtain ⟨news,hsrc,hnv,hel,hlen,hpre⟩:=elems_run r.ss (t:=s) hit (by simp [srcOK,hs,hc1]) hx (by omega)
        rw [bytesIn_cells hb] at hnv
        obtain ⟨ns,k1,k2⟩:=bytesIn_V hnv hb
        subst k1; subst k2
        refine ⟨_,w,?_,g,Out.pure r (.sc (.str _) .nil)⟩
        have hn:ns.length=items.length:=by have:=hnv.length; simpa using this
        have hfull:=hpre items.length (Nat.le_refl _)
        rw [hc2,Nat.mul_one,List.take_of_length_le (by simp [hn])] at hfull
        have hk:xv = .slice none 0 0∨∃ad n c,xv = .slice (some ad) n c∧n=items.length:=by
          cases z1 with
          | s y =>
            cases y <;> simp [AV.isSlice] at hc1
            exact .inl hx.sc_inv
          | list fl sz es =>
            rcases hx.list_inv with ⟨ad,cap,rfl,_⟩ | ⟨_,_,rfl⟩
            rotate_left
            · exact .inl rfl
            refine .inr ⟨_,_,_,rfl,?_⟩
            simp only [Builtin.lenOf] at hlen
            exact Sem.pure.inj hlen
          | row rf off len cap =>
            obtain ⟨b,c,rfl,_⟩:=hx.row_inv
            refine .inr ⟨_,_,_,rfl,?_⟩
            simp only [Builtin.lenOf] at hlen
            exact Sem.pure.inj hlen
          | _=>simp [AV.isSlice] at hc1
        rcases hk with rfl | ⟨ad,n,c,rfl,rfl⟩
        · have hn0:items.length=0:=(Sem.pure.inj (show Sem.pure 0=Sem.pure items.length from hlen)).symm
          have hns:ns=[]:=List.length_eq_zero_iff.1 (by omega)
          subst hns
          simp [Go.convert,run_underlying hs,run_underlying hd,run_underlying he,Conv.bytesToString,Sc.toV]
          rfl
        · have hload:(loadCells ad items.length).run P w = .ok (ns.map (Value.int .u8)).toArray w:=by simpa [Builtin.firstCells] using hfull
          have:=run_bytesToString (P:=P) w ad items.length c ns hload
          simp [Go.convert,run_underlying hs,run_underlying hd,run_underlying he,this,Sc.toV]
          rw [foldl_push]
          simp
  · cases h
end
end Go.AM
namespace Go.AM
open Go
section
variable {P:Program} {g g':G} {w w':World} {ow ow' ow1:Own} {σ σ':St} {fr fr':Fr} {tm:Array Value} {a:Act} {dst:Option Tmp}
theorem Rel.thaw (r : Rel g w ow fr tm σ) {ro : Nat → Nat → Prop} {sz cap : Nat} {es : List AV} {v : Value} {ad : Addr} {xs : List Value} (u : Uniq g w ro sz es v ad cap xs) (f : Free g ow ro) (hne : es ≠ []) (hlow : AV.under.go σ.stk.length (es.flatMap AV.cells) = true) :
    Rel ⟨g.sb ++ [ad.block],g.hb,g.wr⟩ w ow fr tm { σ with stk:=σ.stk ++ [es.flatMap AV.cells] }∧Tr Nought g w ⟨g.sb ++ [ad.block],g.hb,g.wr⟩ w:=by
  have hlen:=u.len
  have hpos:0 < es.length * sz:=Nat.mul_pos (List.length_pos_iff.2 hne) u.pos
  have hcap:es.length * sz≤cap * sz:=Nat.mul_le_mul_right _ u.le
  have hro:∀i,i < cap * sz→ro ad.block i:=fun i hi=>by have:=(u.spare i (Nat.zero_le _) hi).1; rwa [u.off,Nat.zero_add] at this
  have hnb:¬g.isBox ad.block:=f.box _ _ (hro 0 (by omega))
  have hcl:(es.flatMap AV.cells).length=es.length * sz:=elems_length fun e h=>(u.elems e h).1
  obtain ⟨cs,E,fz,hobj⟩:∃cs E fz,w.heap[ad.block]? = some (.cells cs E fz):=by
    obtain ⟨v,hv⟩:=(u.spare 0 (Nat.zero_le _) (by omega)).2.1
    unfold World.cell? at hv
    split at hv
    · rename_i cs E fz h; exact ⟨cs,E,fz,h⟩
    · cases hv
  have hcell:∀(i:Nat) (v:Value),w.cell? ⟨ad.block,i,none⟩=some v→cs[i]? = some v:=fun i v h=>by simpa [World.cell?,hobj] using h
  have t:Tr Nought g w ⟨g.sb ++ [ad.block],g.hb,g.wr⟩ w:=⟨Nat.le_refl _,fun _ _ _=>rfl,fun _ _ _ _=>rfl,fun _ _ v h=>⟨v,h⟩,fun _ _ _=>rfl,fun _ _ h => .inl h,fun n b hn=>by rw [List.getElem?_append_left (List.getElem?_eq_some_iff.1 hn).1]; exact hn,fun _ _ h=>h,.r⟩
  have hib:∀b,(⟨g.sb ++ [ad.block],g.hb,g.wr⟩:G).isBox b→g.isBox b∨b=ad.block:=fun b hb=>by
    rcases hb with hb | hb
    · rcases List.mem_append.1 hb with hb | hb
      · exact .inl (.inl hb)
      · exact .inr (by simpa using hb)
    · exact .inl (.inr hb)
  refine ⟨⟨?_,⟨r.own.wr,fun p b o h hb=>(hib b hb).elim (r.own.box _ _ _ h) fun e => ?_,r.own.one⟩,r.sf.later t (fun _ _ h=>h.elim) (fun _ _ _ _ h=>h) fun _ _ _ h=>h⟩,t⟩
  · exact {
      slen:=by simp [r.ss.slen]
      hlen:=r.ss.hlen
      nodup:=by
        have h0:=r.ss.nodup
        have hn:ad.block∉g.sb ++ g.hb:=fun hm=>hnb (List.mem_append.1 hm)
        show (g.sb ++ [ad.block] ++ g.hb).Nodup
        rw [List.append_assoc]
        exact (List.Perm.nodup_iff (List.perm_middle (l₁ := g.sb) (l₂ := g.hb) (a:=ad.block))).2 (List.nodup_cons.2 ⟨hn,h0⟩)
      lt:=r.ss.lt
      stk:=fun n c hn=>by
        by_cases e:n < σ.stk.length
        · rw [List.getElem?_append_left e] at hn
          obtain ⟨h0,b,xs,E,fz,h1,h2⟩:=r.ss.stk n c hn
          exact ⟨h0,b,xs,E,fz,t.sb _ _ h1,h2.still t (fun i b x h=>h) fun o h=>h⟩
        · have e':n=σ.stk.length:=by
            have:=(List.getElem?_eq_some_iff.1 hn).1
            simp at this; omega
          subst e'
          rw [List.getElem?_append_right (Nat.le_refl _)] at hn
          simp at hn; subst hn
          refine ⟨hlow,ad.block,cs,E,fz,by simp [←r.ss.slen],hobj,?_,fun i x hi => ?_,fun i hi=>⟨f.wr _ _ (hro i (by omega)),?_⟩⟩
          · rw [hcl]
            have:=(u.spare (es.length * sz - 1) (Nat.zero_le _) (by omega)).2.1
            obtain ⟨v,hv⟩:=this
            rw [u.off,Nat.zero_add] at hv
            have:=(Array.getElem?_eq_some_iff.1 (hcell _ _ hv)).1
            omega
          · obtain ⟨v,h1,h2⟩:=u.vl.get hi
            have:=u.cell i v h1
            rw [u.off,Nat.zero_add] at this
            obtain ⟨e,he,hec⟩:=List.mem_flatMap.1 (List.mem_of_getElem? hi)
            exact ⟨v,hcell _ _ this,PV.of (VL.later (t.later fun _ _ h=>h.elim) h2),.inl ((u.elems e he).2 x hec)⟩
          · have:=(u.spare i (Nat.zero_le _) (by omega)).2.2
            rw [u.off,Nat.zero_add] at this
            simp only [World.frozen?,hobj] at this
            simpa using this
      heap:=fun n c hn=>by
        obtain ⟨h0,b,xs,E,fz,h1,h2⟩:=r.ss.heap n c hn
        exact ⟨h0,b,xs,E,fz,h1,h2.still t (fun i b x h=>h) fun o h=>h⟩
      maps:=fun n es c hn=>by
        obtain ⟨b,xs,h1,h2⟩:=r.ss.maps n es c hn
        exact ⟨b,xs,h1,h2.still t fun o h=>h⟩
      loops:=fun n l hn=>by
        obtain ⟨b,q,h1,h2⟩:=r.ss.loops n l hn
        exact ⟨b,q,h1,h2.still t fun o h=>h⟩
      iters:=fun n l hn=>by
        obtain ⟨b,q,h1,h2⟩:=r.ss.iters n l hn
        exact ⟨b,q,h1,h2.still t fun o h=>h⟩
      dead:=fun n hn=>by
        obtain ⟨b,h1,h2⟩:=r.ss.dead n hn
        exact ⟨b,h1,t.lt h2⟩ }
  · subst e
    exact f.apart _ _ _ h (u.all _ (r.own.wr _ _ _ h))
theorem thaw_out (r:Rel g w ow fr a.tmps σ) {x:Operand} {v:AV} (h:AM.thaw fr x σ=some (v,fr',σ')):∃g' ow',Out g w ow dst v fr' σ' a.tmps g' w ow' (a.eval x):=by
  unfold AM.thaw at h
  split at h
  case h_2=>cases h
  rename_i t
  split at h
  · rename_i sz es hv
    split at h
    · cases h
    rename_i hne
    have hne:es≠[]:=by simpa using hne
    cases hb:AM.newBox false (es.flatMap AV.cells) σ with
    | none=>simp [hb] at h
    | some q =>
      obtain ⟨rf,σ1⟩:=q
      simp only [hb,Option.map_some,Option.some.injEq,Prod.mk.injEq] at h
      obtain ⟨rfl,rfl,rfl⟩:=h
      unfold AM.newBox at hb
      simp only [Bool.false_eq_true,if_false] at hb
      split at hb
      case isFalse=>cases hb
      rename_i hlow
      simp only [Option.some.injEq,Prod.mk.injEq] at hb
      obtain ⟨rfl,rfl⟩:=hb
      obtain ⟨h1,h2,h3⟩:=r.take t
      rw [hv] at h1
      obtain ⟨ad,cap,xs,u⟩:=h1
      obtain ⟨r',t'⟩:=h2.thaw u h3 hne hlow
      have hev:a.eval (.tmp t) = .slice (some ⟨ad.block,0,none⟩) es.length cap:=by
        have:=u.val
        show a.tmps.getD t undef=_
        rw [this]
        have h1:=u.off
        have h2:=u.spot
        cases ad; simp_all
      have hV:V ⟨g.sb ++ [ad.block],g.hb,g.wr⟩ w (.row (.stk σ.stk.length) 0 es.length es.length) (a.eval (.tmp t)):=by
        rw [hev]
        exact .row (by simp [G.ref,←r.ss.slen]) (Nat.le_refl _) u.le .nil
      have r2:Rel ⟨g.sb ++ [ad.block],g.hb,g.wr⟩ w (ow.set (.slot t) Nobody) (fr.set t (.row (.stk σ.stk.length) 0 es.length es.length)) a.tmps { σ with stk:=σ.stk ++ [es.flatMap AV.cells] }:=by
        refine ⟨r'.ss,r'.own,⟨by rw [r.sf.size]; simp,fun i x hi => ?_⟩⟩
        by_cases e:i=t
        · subst e
          have hl:i < fr.length:=by
            rcases Nat.lt_or_ge i fr.length with h | h
            · exact h
            · rw [List.getElem?_eq_none (by simpa using h)] at hi; simp at hi
          rw [List.getElem?_set_self hl] at hi
          injection hi with hi; subst hi
          obtain ⟨v,hv1,_⟩:=r.sf.val i _ (List.getElem?_eq_getElem hl)
          refine ⟨v,hv1,PV.of ?_⟩
          have:a.tmps.getD i undef=v:=by simp [hv1]
          rw [←this]; exact hV
        · rw [List.getElem?_set_ne (Ne.symm e)] at hi
          exact r'.sf.val i x (by rw [List.getElem?_set_ne (Ne.symm e)]; exact hi)
      have hall:∀p b o,(ow.set (.slot t) Nobody) p b o→ow p b o:=fun p b o h=>by
        by_cases e:p = .slot t
        · rw [e,Own.set_same] at h; exact h.elim
        · rw [Own.set_other _ _ e] at h; exact h
      obtain ⟨ow'',ho⟩:=Out.of (g:=g) (w:=w) (ow:=ow) (dst:=dst) r2 (PV.of (o:=Nobody) hV) (Free.nobody _ _) t'.nought (fun p b o h => .inl (.own (hall _ _ _ h))) (fun b o h=>h.elim) (fun b o hb hw=>by
        rcases hb with hb | hb
        · rcases List.mem_append.1 hb with hb | hb
          · exact .inl (.inl ⟨.inl hb,hw⟩)
          · have:b=ad.block:=by simpa using hb
            subst this
            exact .inl (.own (u.all _ hw))
        · exact .inl (.inl ⟨.inr hb,hw⟩)) (fun _ _ h => .inr h) (fun _ h => .inl h)
      exact ⟨_,ow'',ho⟩
  · rename_i hv
    simp only [Option.some.injEq,Prod.mk.injEq] at h
    obtain ⟨rfl,rfl,rfl⟩:=h
    have:=r.sf.getD t
    rw [hv] at this
    exact ⟨g,Out.pure r this⟩
  · cases h
theorem freeze_out (r:Rel g w ow fr a.tmps σ) {t:TypeId} {x v:AV} {xv:Value} (h:AM.freeze P t x σ=some (v,σ')) (hx:V g w x xv):∃g' ow',Out g w ow dst v fr σ' a.tmps g' w ow' xv:=by
  unfold AM.freeze at h
  split at h
  · rename_i e n len cap ht
    cases hr:readCells σ (.ptr (.stk n) 0) (len * P.cellsOf e) with
    | none=>simp [hr] at h
    | some cs =>
      simp only [hr,Option.bind_some] at h
      split at h
      case isFalse=>cases h
      rename_i hc
      obtain ⟨hc1,hc2,hc3⟩:=hc
      simp only [Option.some.injEq,Prod.mk.injEq] at h
      obtain ⟨rfl,rfl⟩:=h
      obtain ⟨b,c,rfl,hb,h1,h2⟩:=hx.row_inv
      obtain ⟨ad,xs,hpv,h3,h4,h5,h6,h7⟩:=read_run r.ss hr (.ptr hb .nil)
      injection hpv with hpv; injection hpv with hpv; subst hpv
      obtain ⟨g1,g2,g3⟩:=group_cells hc3 h4 h6
      have hbs:g.sb[n]? = some b:=hb
      have hbox:g.isBox b := .inl (List.mem_of_getElem? hbs)
      have hlt:n < σ.stk.length:=by rw [←r.ss.slen]; exact (List.getElem?_eq_some_iff.1 hbs).1
      obtain ⟨_,b',bx,E,fz,k1,k2⟩:=r.ss.stk n _ (List.getElem?_eq_getElem hlt)
      rw [hbs] at k1; injection k1 with k1; subst k1
      let X:Nat→Nat→Prop:=fun b' _=>b'=b
      have t:Tr Nought g w (g.less X) w:=Tr.less X
      have r':Rel (g.less X) w ow fr a.tmps { σ with stk:=σ.stk.set n [] }:=by
        refine ⟨?_,⟨fun p b' o h=>⟨r.own.wr _ _ _ h,fun hx=>r.own.box _ _ _ h (by rw [show b'=b from hx]; exact hbox)⟩,r.own.box,r.own.one⟩,r.sf.later t (fun _ _ h=>h.elim) (fun _ _ _ _ h=>h) fun _ _ _ h=>h⟩
        obtain ⟨n1,n2,n3⟩:=nodup_ref r.ss.nodup
        refine r.ss.replace r.own hbox t (fun _ _ h=>h.elim) (fun b' o h=>r.ss.lt _ _ h.1) rfl rfl (fun b' o hne _ h=>⟨h,hne⟩) (by simp) rfl ?_ ?_ ?_ ?_ ?_ ?_ ?_ ?_ ?_
        · intro m c hm hmb
          obtain rfl:=n1 _ _ _ hmb hbs
          dsimp only at hm
          rw [List.getElem?_set_self hlt] at hm
          injection hm with hm; subst hm
          exact ⟨rfl,bx,E,fz,k2.obj,Nat.zero_le _,fun i a hi=>by simp at hi,fun i hi=>by simp at hi⟩
        · intro m c _ hmb; exact (n3 _ _ _ hbs hmb).elim
        · intro m es c _ hmb; exact (n3 _ _ _ hbs hmb).elim
        · intro m l _ hmb; exact (n3 _ _ _ hbs hmb).elim
        · intro m l _ hmb; exact (n3 _ _ _ hbs hmb).elim
        · intro m hne
          have e:n≠m:=fun e=>hne (e▸hbs)
          dsimp only; rw [List.getElem?_set_ne e]
        · intro m _; rfl
        · intro m i b' x _ h; exact h
        · intro m i b' x _ h; exact h
      have hV:V (g.less X) w (.list .sh (P.cellsOf e) (group P e len cs)) (.slice (some ⟨b,0,none⟩) len c):=by
        refine .list (xs:=xs) (.inl rfl) g2.symm (by omega) hc2 (.inr rfl) g3 ?_ (by rw [g1]; exact h5.later (t.later fun _ _ h=>h.elim)) (fun i v hi => ?_) .nil
        · -- no references in what is read
          refine under_mem.2 fun x hx => ?_
          have hcx:∀c∈x.cells,AV.under 0 c=true:=fun c hc=>by
            have:c∈(group P e len cs).flatMap AV.cells:=List.mem_flatMap.2 ⟨x,hx,hc⟩
            rw [g1] at this
            exact (under_mem.1 hc1) c this
          cases x with
          | agg l=>simp only [AV.under]; exact under_mem.2 fun c hc=>hcx c hc
          | _=>exact hcx _ (by simp [AV.cells])
        · have:=h7 i v hi
          rw [Addr.add_lit] at this
          exact ⟨this,fun hw=>hw.2 rfl⟩
      obtain ⟨ow'',ho⟩:=Out.of (g:=g) (w:=w) (ow:=ow) (dst:=dst) r' (PV.of (o:=Nobody) hV) (Free.nobody _ _) t.nought (fun p b o h => .inl (.own h)) (fun b o h=>h.elim) (fun b o h1 h2 => .inl (.inl ⟨h1,h2.1⟩)) (fun b' o h=>(Classical.em (b'=b)).elim (fun hx => .inl (.inl ⟨by rw [hx]; exact hbox,h⟩)) fun hx => .inr ⟨h,hx⟩) (fun _ h => .inl h)
      exact ⟨_,ow'',ho⟩
  · simp only [Option.some.injEq,Prod.mk.injEq] at h
    obtain ⟨rfl,rfl⟩:=h
    exact ⟨g,Out.pure r hx⟩
  · cases h
end
end Go.AM
namespace Go.AM
open Go
section
variable {P:Program} {g g':G} {w w':World} {ow ow' ow1:Own} {σ σ':St} {fr fr':Fr} {tm:Array Value} {a:Act} {dst:Option Tmp}
def EntriesOK (g:G) (w:World) (es:List Entry) (xs:List MapEntry):Prop:=xs.length=es.length∧∀(i:Nat) (e:Entry),es[i]? = some e→∃x,xs[i]? = some x∧EntryOK g w e x
theorem EntriesOK.tail {e:Entry} {x:MapEntry} {es:List Entry} {xs:List MapEntry} (h:EntriesOK g w (e :: es) (x :: xs)):EntryOK g w e x∧EntriesOK g w es xs:=by
  refine ⟨?_,by simpa using h.1,fun i e' hi=>h.2 (i + 1) e' hi⟩
  obtain ⟨x',h1,h2⟩:=h.2 0 e rfl
  simp at h1; subst h1; exact h2
theorem findNow_run {d : TypeDesc} (hd : nowKind d = true) {kT : TypeId} (hu : P.underlying kT = some d) {k : AV} {kv : Value} (hk : k.toV = some kv) : ∀ {es : List Entry} {xs : List MapEntry} {i : Nat} {r : Option (Nat × Entry)},
    EntriesOK g w es xs→findA P kT k es i=some r→Instr.findNow d kv xs i=some (r.bind fun (j,e)=>(xs[j - i]?).map fun x=>(j,x.val))∧∀j e,r=some (j,e)→i≤j∧es[j - i]? = some e
  | [],xs,i,r,h,hf=>by
    have:xs=[]:=List.length_eq_zero_iff.1 h.1
    subst this
    simp [findA] at hf; subst hf
    exact ⟨rfl,fun _ _ h=>by cases h⟩
  | e :: es,[],i,r,h,hf=>by have:=h.1; simp at this
  | e :: es,x :: xs,i,r,h,hf=>by
    obtain ⟨h1,h2⟩:=h.tail
    simp only [findA,keyEq,hk,h1.plain,hu,hd,if_true] at hf
    cases hs:Instr.sameNow d kv x.key with
    | none=>simp [hs] at hf
    | some b =>
      simp only [hs] at hf
      cases b with
      | true =>
        simp only [Option.some.injEq] at hf; subst hf
        refine ⟨by simp [Instr.findNow,hs],fun j e' h => ?_⟩
        simp only [Option.some.injEq,Prod.mk.injEq] at h
        obtain ⟨rfl,rfl⟩:=h
        exact ⟨Nat.le_refl _,by simp⟩
      | false =>
        simp only at hf
        obtain ⟨k1,k2⟩:=findNow_run hd hu hk h2 hf
        refine ⟨?_,fun j e' h => ?_⟩
        · simp only [Instr.findNow,hs,k1]
          cases r with
          | none=>rfl
          | some q =>
            obtain ⟨j,e'⟩:=q
            have:=(k2 j e' rfl).1
            simp only [Option.bind_some]
            rw [show j - i=(j - (i + 1)) + 1 by omega,List.getElem?_cons_succ]
        · obtain ⟨m1,m2⟩:=k2 j e' h
          refine ⟨by omega,?_⟩
          rw [show j - i=(j - (i + 1)) + 1 by omega,List.getElem?_cons_succ]; exact m2
theorem findAsking_run {d : TypeDesc} (hd : nowKind d = false) {kT : TypeId} (hu : P.underlying kT = some d) {k : AV} {kv : Value} (hk : k.toV = some kv) : ∀ {es : List Entry} {xs : List MapEntry} {i : Nat} {r : Option (Nat × Entry)},
    EntriesOK g w es xs→findA P kT k es i=some r→(Instr.findAsking kT kv xs i).run P w = .ok (r.bind fun (j,e)=>(xs[j - i]?).map fun x=>(j,x.val)) w∧∀j e,r=some (j,e)→i≤j∧es[j - i]? = some e
  | [],xs,i,r,h,hf=>by
    have:xs=[]:=List.length_eq_zero_iff.1 h.1
    subst this
    simp [findA] at hf; subst hf
    exact ⟨rfl,fun _ _ h=>by cases h⟩
  | e :: es,[],i,r,h,hf=>by have:=h.1; simp at this
  | e :: es,x :: xs,i,r,h,hf=>by
    obtain ⟨h1,h2⟩:=h.tail
    simp only [findA,keyEq,hk,h1.plain,hu,hd,Bool.false_eq_true,if_false] at hf
    cases hs:val P (Op.equal kT kv x.key) with
    | none=>simp [hs] at hf
    | some b =>
      simp only [hs] at hf
      have hrun:=val_run hs w
      cases b with
      | true =>
        simp only [Option.some.injEq] at hf; subst hf
        refine ⟨by simp [Instr.findAsking,hrun],fun j e' h => ?_⟩
        simp only [Option.some.injEq,Prod.mk.injEq] at h
        obtain ⟨rfl,rfl⟩:=h
        exact ⟨Nat.le_refl _,by simp⟩
      | false =>
        simp only at hf
        obtain ⟨k1,k2⟩:=findAsking_run hd hu hk h2 hf
        refine ⟨?_,fun j e' h => ?_⟩
        · simp [Instr.findAsking,hrun,k1]
          cases r with
          | none=>rfl
          | some q =>
            obtain ⟨j,e'⟩:=q
            have:=(k2 j e' rfl).1
            simp only [Option.bind_some]
            rw [show j - i=(j - (i + 1)) + 1 by omega,List.getElem?_cons_succ]
        · obtain ⟨m1,m2⟩:=k2 j e' h
          refine ⟨by omega,?_⟩
          rw [show j - i=(j - (i + 1)) + 1 by omega,List.getElem?_cons_succ]; exact m2
theorem sameNow_none {d:TypeDesc} (hd:nowKind d=false) (a b:Value):Instr.sameNow d a b=none:=by
  cases d <;> simp [nowKind] at hd <;> rfl
theorem findKey_run {kT : TypeId} {k : AV} {kv : Value} (hk : k.toV = some kv) {es : List Entry} {xs : List MapEntry} {r : Option (Nat × Entry)} (hu : (P.underlying kT).isSome = true) (h : EntriesOK g w es xs) (hf : findA P kT k es 0 = some r) :
    (Instr.findKey kT kv xs).run P w = .ok (r.bind fun (j,e)=>(xs[j]?).map fun x=>(j,x.val)) w∧∀j e,r=some (j,e)→es[j]? = some e:=by
  obtain ⟨d,hd⟩:=Option.isSome_iff_exists.1 hu
  cases hn:nowKind d with
  | true =>
    obtain ⟨k1,k2⟩:=findNow_run hn hd hk h hf
    exact ⟨by simp [Instr.findKey,run_underlying hd,k1],fun j e he=>by simpa using (k2 j e he).2⟩
  | false =>
    obtain ⟨k1,k2⟩:=findAsking_run hn hd hk h hf
    refine ⟨?_,fun j e he=>by simpa using (k2 j e he).2⟩
    cases xs with
    | nil =>
      have hr:r=none:=by
        have:es=[]:=List.length_eq_zero_iff.1 h.1.symm
        subst this; simp [findA] at hf; exact hf.symm
      subst hr
      simp [Instr.findKey,run_underlying hd,Instr.findNow]
    | cons x xs =>
      have:Instr.findNow d kv (x :: xs) 0=none:=by simp [Instr.findNow,sameNow_none hn]
      simp [Instr.findKey,run_underlying hd,this]
      simpa using k1
theorem keyMay_run {kT:TypeId} {k:AV} (h:keyMay P kT k=true):∃kv,k.toV=some kv∧(∀b w,(Instr.checkKey b 10000 kT kv).run P w = .ok () w):=by
  unfold keyMay at h
  split at h
  case h_2=>cases h
  rename_i kv hk
  simp only [Bool.and_eq_true] at h
  obtain ⟨h1,h2⟩:=h
  obtain ⟨u1,k1⟩:=Option.isSome_iff_exists.1 h1
  obtain ⟨u2,k2⟩:=Option.isSome_iff_exists.1 h2
  exact ⟨kv,hk,fun b w=>by
    cases b
    · exact val_run k1 w
    · exact val_run k2 w⟩
theorem SS.map (s:SS g w ow σ) {h:Nat} {es:List Entry} {c:Nat} (hm:mapOf σ (.map h)=some (es,c)):σ.heap[h]? = some (.map es c)∧∃b xs,g.hb[h]? = some b∧MapOK g w b es c xs:=by
  unfold mapOf at hm
  simp only at hm
  split at hm
  · rename_i es' c' hh
    simp only [Option.some.injEq,Prod.mk.injEq] at hm
    obtain ⟨rfl,rfl⟩:=hm
    exact ⟨hh,s.maps _ _ _ hh⟩
  · cases hm
theorem MapOK.entries {b:Nat} {es:List Entry} {c:Nat} {xs:Array MapEntry} (h:MapOK g w b es c xs):EntriesOK g w es xs.toList :=
  ⟨by simpa using h.size,fun i e hi=>by obtain ⟨x,h1,h2⟩:=h.val i e hi; exact ⟨x,by simpa using h1,h2⟩⟩
theorem lookup_run (s : SS g w ow σ) {t : TypeId} {m k v : AV} {mv kv : Value} {ok : Bool} (h : lookup P t m k ok σ = some v) (hm : V g w m mv) (hk : V g w k kv) :
    ∃val,(Instr.lookup t mv kv ok).run P w = .ok val w∧V g w v val:=by
  unfold lookup at h
  split at h
  case h_2=>cases h
  rename_i kT eT ht
  split at h
  · cases h
  rename_i hmay
  simp only [Bool.not_eq_true',Bool.not_eq_false] at hmay
  obtain ⟨kv',hk1,hk2⟩:=keyMay_run hmay
  obtain rfl:=toV_eq hk hk1
  split at h
  · cases h
  rename_i es c hmo
  have hkT:(P.underlying kT).isSome=true:=by
    have:=hmay
    unfold keyMay at this
    rw [hk1] at this
    simp only [Bool.and_eq_true] at this
    obtain ⟨u,hu⟩:=Option.isSome_iff_exists.1 this.1
    have:=val_run hu w
    cases hd:P.underlying kT with
    | some d=>rfl
    | none =>
      unfold Instr.checkKey at this
      simp [underlying,hd,stuck,Sem.run] at this
  have hes:∃xs:Array MapEntry,EntriesOK g w es xs.toList∧((mv = .map none∧xs = #[])∨∃b,mv = .map (some b)∧(getObj b).run P w = .ok (.map xs c) w):=by
    cases m with
    | s y =>
      cases y <;> simp [mapOf] at hmo
      obtain ⟨rfl,rfl⟩:=hmo
      exact ⟨#[],⟨rfl,fun i e h=>by simp at h⟩,.inl ⟨hm.sc_inv,rfl⟩⟩
    | map n =>
      obtain ⟨_,b,xs,hb,hM⟩:=s.map hmo
      obtain ⟨b',rfl,hb'⟩:=hm.map_inv
      rw [hb] at hb'; injection hb' with hb'; subst hb'
      exact ⟨xs,hM.entries,.inr ⟨b,rfl,by simp [getObj,Sem.run,hM.obj]⟩⟩
    | _=>simp [mapOf] at hmo
  obtain ⟨xs,hE,hK⟩:=hes
  have hrun:∀r,findA P kT k es 0=some r→(Instr.findKey kT kv xs.toList).run P w = .ok (r.bind fun (j,e)=>(xs[j]?).map fun x=>(j,x.val)) w∧∀j e,r=some (j,e)→es[j]? = some e:=fun r hr=>by
    obtain ⟨k1,k2⟩:=findKey_run (w:=w) hk1 hkT hE hr
    exact ⟨by simpa using k1,k2⟩
  split at h
  · rename_i j e hf
    injection h with h
    obtain ⟨k1,k2⟩:=hrun _ hf
    obtain ⟨x,hx1,hx2⟩:=hE.2 j e (k2 j e rfl)
    have hx1':xs[j]? = some x:=by simpa using hx1
    simp only [Option.bind_some,hx1',Option.map_some] at k1
    refine ⟨if ok then .tuple #[x.val,.bool true] else x.val,?_,?_⟩
    · rcases hK with ⟨rfl,rfl⟩ | ⟨b,rfl,hg⟩
      · simp at hx1
      · simp [Instr.lookup,run_underlying ht,hg,hk2,k1]
    · rw [←h]
      cases ok
      · exact hx2.val
      · exact .tup (xs := #[x.val,.bool true]) (VL.cons_of hx2.val (.sc (.bool true) .nil)) .nil
  · rename_i hf
    cases hz:zeroA P eT with
    | none=>simp [hz] at h
    | some z =>
      simp only [hz,Option.map_some,Option.some.injEq] at h
      obtain ⟨k1,_⟩:=hrun _ hf
      simp only [Option.bind_none] at k1
      obtain ⟨zv,hz1,hz2,_⟩:=zeroA_run hz
      have hzV:=(ofPlain_V (g:=g) (w:=w) hz2).1
      refine ⟨if ok then .tuple #[zv,.bool false] else zv,?_,?_⟩
      · rcases hK with ⟨rfl,rfl⟩ | ⟨b,rfl,hg⟩
        · simp at k1
          simp [Instr.lookup,run_underlying ht,hk2,k1,hz1]
        · simp [Instr.lookup,run_underlying ht,hg,hk2,k1,hz1]
      · rw [←h]
        cases ok
        · exact hzV
        · exact .tup (xs := #[zv,.bool false]) (VL.cons_of hzV (.sc (.bool false) .nil)) .nil
  · cases h
end
end Go.AM
