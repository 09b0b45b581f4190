import Derived.Test.YtokgblddddfhnaaM10
set_option linter.unusedSimpArgs false
set_option linter.unusedVariables false
namespace Go.AM
open Go
set_option maxRecDepth 20000
def C_key_text_k1 : LCode := (.block 1 (.sq [(zs 12 (.mv false (.t 3))), (zs 13 (.bin .add .sc (.t 12) (zi 1))), (zs 3 (.mv true (.t 13)))]))
def u_C_key_text_k1 := PLift.up (@unfC _ _ (C_key_text_k1.eq_1))
def C_key_text_k2 : LCode := (.seq (.seq (.sq [(zs 4 (.mv false (.t 3))), (zs 5 (.bin .lss .sc (.t 4) (zi 16))), (zs 6 (.mv false (.t 5))), (zt 7 6 (.mv false (.t 3))), (zt 8 6 (.ixa (.arr 16 1) (.t 1) (.t 7))), (zt 9 6 (.load1 false (.t 8))), (zt 10 6 (.bin .neq .sc (.t 9) (.c (.int .u8 0)))), (zs 11 (.pick (.t 6) (.t 10) zF))]) (.cond (.t 11) .skip (.exit 0))) C_key_text_k1)
def u_C_key_text_k2 := PLift.up (@unfC _ _ (C_key_text_k2.eq_1))
def C_key_text_k3 : LCode := (.seq (.sq [(zs 14 (.mv false (.t 3))), (zs 15 (.slc (.arr 16 1) (.t 1) none (some (.t 14)) none)), (zs 16 (.conv .ofBytes (.t 15))), (zs 2 (.mv true (.t 16)))]) .ret)
def u_C_key_text_k3 := PLift.up (@unfC _ _ (C_key_text_k3.eq_1))
def C_key_text_k4 : LCode := (.seq (.block 0 (.loop [false, true, false, true, false, false, false, false, false, false, false, false, false, false, false, false, false] C_key_text_k2)) C_key_text_k3)
def u_C_key_text_k4 := PLift.up (@unfC _ _ (C_key_text_k4.eq_1))
def C_key_text : LFn := ⟨17, [.t 2], (.seq (.sq [(zs 1 (.box false false (.t 0))), (zs 2 (.mv true (.c (.str []))))]) (.seq (.sq [(zs 3 (.mv true (zi 0)))]) C_key_text_k4))⟩
def C_key_Of_k1 (f_strings_IndexByte : FuncId) : LCode := (.seq (.sq [(zs 17 (.loadA 16 (.t 4))), (zn (.store 16 (.t 2) (.t 17))), (zs 3 (.mv true (zi 1)))]) .ret)
def u_C_key_Of_k1 (f_strings_IndexByte : FuncId) := PLift.up (@unfC _ _ (C_key_Of_k1.eq_1 f_strings_IndexByte))
def C_key_Of_k2 (f_strings_IndexByte : FuncId) : LCode := (.seq (.sq [(zs 21 (.loadA 16 (.t 4))), (zn (.store 16 (.t 2) (.t 21))), (zs 3 (.mv true (zi 0)))]) .ret)
def u_C_key_Of_k2 (f_strings_IndexByte : FuncId) := PLift.up (@unfC _ _ (C_key_Of_k2.eq_1 f_strings_IndexByte))
def C_key_Of_k3 (f_strings_IndexByte : FuncId) : LCode := (.seq (.sq [(zs 18 (.slc (.arr 16 1) (.t 4) none none none)), (zs 19 (.mv false (.t 0))), (zs 20 (.cpy ⟨1, false, 1, (.s (.int .u8 0))⟩ true (.t 18) (.t 19)))]) (C_key_Of_k2 f_strings_IndexByte))
def u_C_key_Of_k3 (f_strings_IndexByte : FuncId) := PLift.up (@unfC _ _ (C_key_Of_k3.eq_1 f_strings_IndexByte))
def C_key_Of_k4 (f_strings_IndexByte : FuncId) : LCode := (.seq (.seq (.sq [(zs 5 (.mv false (.t 0))), (zs 6 (.bin .eql .sc (.t 5) (.c (.str [])))), (zs 7 (.mv false (.t 6))), (zf 8 7 (.mv false (.t 0))), (zf 9 7 (.len .str (.t 8))), (zf 10 7 (.bin .gtr .sc (.t 9) (zi 16))), (zs 11 (.pick (.t 7) zT (.t 10))), (zs 12 (.mv false (.t 11))), (zf 13 12 (.mv false (.t 0))), (zf 14 12 (.call (.f f_strings_IndexByte) [(.t 13), (.c (.int .u8 0))])), (zf 15 12 (.bin .geq .sc (.t 14) (zi 0))), (zs 16 (.pick (.t 12) zT (.t 15)))]) (.cond (.t 16) (C_key_Of_k1 f_strings_IndexByte) .skip)) (C_key_Of_k3 f_strings_IndexByte))
def u_C_key_Of_k4 (f_strings_IndexByte : FuncId) := PLift.up (@unfC _ _ (C_key_Of_k4.eq_1 f_strings_IndexByte))
def C_key_Of (f_strings_IndexByte : FuncId) : LFn := ⟨22, [.many 2 16, .t 3], (.seq (.sq [(zs 2 (.alloc false zk)), (zs 3 (.mv true (zi 0)))]) (.seq (.sq [(zs 4 (.alloc false zk))]) (C_key_Of_k4 f_strings_IndexByte)))⟩
def C_key_Good_k1 (f_key_text f_key_Of : FuncId) : LCode := (.seq (.sq [(zs 11 (.mv false (.t 4))), (zs 12 (.bin .eql .sc (.t 11) (zi 0))), (zs 13 (.mv false (.t 12))), (zt 14 13 (.loadA 16 (.t 3))), (zt 15 13 (.loadA 16 (.t 1))), (zt 16 13 (.bin .eql (.leaf lk) (.t 14) (.t 15))), (zs 17 (.pick (.t 13) (.t 16) zF)), (zs 2 (.mv true (.t 17)))]) .ret)
def u_C_key_Good_k1 (f_key_text f_key_Of : FuncId) := PLift.up (@unfC _ _ (C_key_Good_k1.eq_1 f_key_text f_key_Of))
def C_key_Good_k2 (f_key_text f_key_Of : FuncId) : LCode := (.seq (.sq [(zs 6 (.loadA 16 (.t 1))), (zs 7 (.call (.f f_key_text) [(.t 6)])), (zs 8 (.call (.f f_key_Of) [(.t 7)])), (zs 5 (.mv false (.t 8))), (zs 9 (.ext (.t 5) 0)), (zs 10 (.ext (.t 5) 1)), (zs 3 (.alloc false zk)), (zn (.store 16 (.t 3) (.t 9))), (zs 4 (.mv true (.t 10)))]) (C_key_Good_k1 f_key_text f_key_Of))
def u_C_key_Good_k2 (f_key_text f_key_Of : FuncId) := PLift.up (@unfC _ _ (C_key_Good_k2.eq_1 f_key_text f_key_Of))
def C_key_Good (f_key_text f_key_Of : FuncId) : LFn := ⟨18, [.t 2], (.seq (.sq [(zs 1 (.box false false (.t 0))), (zs 2 (.mv true zF))]) (C_key_Good_k2 f_key_text f_key_Of))⟩
def C_key_Cmp_k1 (f_bytes_Compare : FuncId) : LCode := (.seq (.tree (.rd (zs 5 (.slc (.arr 16 1) (.t 2) none none none)) 0 false (.rd (zs 6 (.slc (.arr 16 1) (.t 3) none none none)) 1 false (.mv (zs 7 (.call (.f f_bytes_Compare) [(.t 5), (.t 6)])) [0, 1] (.mv (zs 4 (.mv true (.t 7))) [0, 1, 2] .done .stop) .stop)))) .ret)
def u_C_key_Cmp_k1 (f_bytes_Compare : FuncId) := PLift.up (@unfC _ _ (C_key_Cmp_k1.eq_1 f_bytes_Compare))
def C_key_Cmp (f_bytes_Compare : FuncId) : LFn := ⟨8, [.t 4], (.seq (.sq [(zs 2 (.box false false (.t 0))), (zs 3 (.box false false (.t 1))), (zs 4 (.mv true (zi 0)))]) (C_key_Cmp_k1 f_bytes_Compare))⟩
def C_bytes_Compare_k1 (f_internal_bytealg_Compare : FuncId) : LCode := (.seq (.sq [(zs 5 (.mv true (.t 0))), (zs 6 (.mv true (.t 1))), (zs 7 (.call (.f f_internal_bytealg_Compare) [(.t 5), (.t 6)])), (zs 4 (.mv true (.t 7)))]) .ret)
def u_C_bytes_Compare_k1 (f_internal_bytealg_Compare : FuncId) := PLift.up (@unfC _ _ (C_bytes_Compare_k1.eq_1 f_internal_bytealg_Compare))
def C_bytes_Compare (f_internal_bytealg_Compare : FuncId) : LFn := ⟨8, [.t 4], (.seq (.sq [(zs 4 (.mv true (zi 0)))]) (C_bytes_Compare_k1 f_internal_bytealg_Compare))⟩
def C_strings_IndexByte_k1 (f_internal_stringslite_IndexByte : FuncId) : LCode := (.seq (.sq [(zs 5 (.mv false (.t 0))), (zs 6 (.mv false (.t 1))), (zs 7 (.call (.f f_internal_stringslite_IndexByte) [(.t 5), (.t 6)])), (zs 4 (.mv true (.t 7)))]) .ret)
def u_C_strings_IndexByte_k1 (f_internal_stringslite_IndexByte : FuncId) := PLift.up (@unfC _ _ (C_strings_IndexByte_k1.eq_1 f_internal_stringslite_IndexByte))
def C_strings_IndexByte (f_internal_stringslite_IndexByte : FuncId) : LFn := ⟨8, [.t 4], (.seq (.sq [(zs 4 (.mv true (zi 0)))]) (C_strings_IndexByte_k1 f_internal_stringslite_IndexByte))⟩
def C_internal_stringslite_IndexByte_k1 (f_internal_bytealg_IndexByteString : FuncId) : LCode := (.seq (.sq [(zs 5 (.mv false (.t 0))), (zs 6 (.mv false (.t 1))), (zs 7 (.call (.f f_internal_bytealg_IndexByteString) [(.t 5), (.t 6)])), (zs 4 (.mv true (.t 7)))]) .ret)
def u_C_internal_stringslite_IndexByte_k1 (f_internal_bytealg_IndexByteString : FuncId) := PLift.up (@unfC _ _ (C_internal_stringslite_IndexByte_k1.eq_1 f_internal_bytealg_IndexByteString))
def C_internal_stringslite_IndexByte (f_internal_bytealg_IndexByteString : FuncId) : LFn := ⟨8, [.t 4], (.seq (.sq [(zs 4 (.mv true (zi 0)))]) (C_internal_stringslite_IndexByte_k1 f_internal_bytealg_IndexByteString))⟩
def C_hourglassref10_Good_k1 : LCode := (.seq (.sq [(zs 13 (.mv false (.t 3)))]) (.cond (.t 13) (.seq (.sq [(zs 2 (.mv true zF))]) .ret) .skip))
def u_C_hourglassref10_Good_k1 := PLift.up (@unfC _ _ (C_hourglassref10_Good_k1.eq_1))
def C_hourglassref10_Good_k2 : LCode := (.sq [(zs 7 (.mv false (.t 4))), (zs 8 (.bin .add .sc (.t 7) (zi 1))), (zs 4 (.mv true (.t 8)))])
def u_C_hourglassref10_Good_k2 := PLift.up (@unfC _ _ (C_hourglassref10_Good_k2.eq_1))
def C_hourglassref10_Good_k3 : LCode := (.seq (.block 1 (.seq (.sq [(zs 9 (.mv false (.t 4))), (zs 10 (.ixa (.arr 16 1) (.t 1) (.t 9))), (zs 11 (.load1 false (.t 10))), (zs 12 (.bin .eql .sc (.t 11) (.c (.int .u8 0))))]) (.cond (.t 12) (.sq [(zs 3 (.mv true zT))]) C_hourglassref10_Good_k1))) C_hourglassref10_Good_k2)
def u_C_hourglassref10_Good_k3 := PLift.up (@unfC _ _ (C_hourglassref10_Good_k3.eq_1))
def C_hourglassref10_Good_k4 : LCode := (.seq (.seq (.sq [(zs 5 (.mv false (.t 4))), (zs 6 (.bin .lss .sc (.t 5) (zi 16)))]) (.cond (.t 6) .skip (.exit 0))) C_hourglassref10_Good_k3)
def u_C_hourglassref10_Good_k4 := PLift.up (@unfC _ _ (C_hourglassref10_Good_k4.eq_1))
def C_hourglassref10_Good_k5 : LCode := (.block 0 (.loop [false, true, false, true, true, false, false, false, false, false, false, false, false, false, false, false, false] C_hourglassref10_Good_k4))
def u_C_hourglassref10_Good_k5 := PLift.up (@unfC _ _ (C_hourglassref10_Good_k5.eq_1))
def C_hourglassref10_Good_k6 : LCode := (.seq (.sq [(zs 14 (.ixa (.arr 16 1) (.t 1) (zi 0))), (zs 15 (.load1 false (.t 14))), (zs 16 (.bin .neq .sc (.t 15) (.c (.int .u8 0)))), (zs 2 (.mv true (.t 16)))]) .ret)
def u_C_hourglassref10_Good_k6 := PLift.up (@unfC _ _ (C_hourglassref10_Good_k6.eq_1))
def C_hourglassref10_Good_k7 : LCode := (.seq (.sq [(zs 3 (.mv true zF))]) (.seq (.seq (.sq [(zs 4 (.mv true (zi 0)))]) C_hourglassref10_Good_k5) C_hourglassref10_Good_k6))
def u_C_hourglassref10_Good_k7 := PLift.up (@unfC _ _ (C_hourglassref10_Good_k7.eq_1))
def C_hourglassref10_Good : LFn := ⟨17, [.t 2], (.seq (.sq [(zs 1 (.box false false (.t 0))), (zs 2 (.mv true zF))]) C_hourglassref10_Good_k7)⟩
def C_hourglassref10_Cmp_k1 : LCode := (.seq (.tree (.rd (zs 17 (.mv false (.t 5))) 0 false (.rd (zs 18 (.ixa (.arr 16 1) (.t 2) (.t 17))) 1 false (.rd (zs 19 (.load1 false (.t 18))) 2 false (.rd (zs 20 (.mv false (.t 5))) 3 false (.rd (zs 21 (.ixa (.arr 16 1) (.t 3) (.t 20))) 4 false (.rd (zs 22 (.load1 false (.t 21))) 5 false (.rd (zs 23 (.bin .gtr .sc (.t 19) (.t 22))) 6 false .done)))))))) (.cond (.t 23) (.seq (.sq [(zs 4 (.mv true (zi 1)))]) .ret) .skip))
def u_C_hourglassref10_Cmp_k1 := PLift.up (@unfC _ _ (C_hourglassref10_Cmp_k1.eq_1))
def C_hourglassref10_Cmp_k2 : LCode := (.sq [(zs 8 (.mv false (.t 5))), (zs 9 (.bin .add .sc (.t 8) (zi 1))), (zs 5 (.mv true (.t 9)))])
def u_C_hourglassref10_Cmp_k2 := PLift.up (@unfC _ _ (C_hourglassref10_Cmp_k2.eq_1))
def C_hourglassref10_Cmp_k3 : LCode := (.seq (.block 1 (.seq (.seq (.tree (.rd (zs 10 (.mv false (.t 5))) 0 false (.rd (zs 11 (.ixa (.arr 16 1) (.t 2) (.t 10))) 1 false (.rd (zs 12 (.load1 false (.t 11))) 2 false (.rd (zs 13 (.mv false (.t 5))) 3 false (.rd (zs 14 (.ixa (.arr 16 1) (.t 3) (.t 13))) 4 false (.rd (zs 15 (.load1 false (.t 14))) 5 false (.rd (zs 16 (.bin .lss .sc (.t 12) (.t 15))) 6 false .done)))))))) (.cond (.t 16) (.seq (.sq [(zs 4 (.mv true (.c (.int .i64 (-1)))))]) .ret) .skip)) C_hourglassref10_Cmp_k1)) C_hourglassref10_Cmp_k2)
def u_C_hourglassref10_Cmp_k3 := PLift.up (@unfC _ _ (C_hourglassref10_Cmp_k3.eq_1))
def C_hourglassref10_Cmp_k4 : LCode := (.seq (.seq (.sq [(zs 6 (.mv false (.t 5))), (zs 7 (.bin .lss .sc (.t 6) (zi 16)))]) (.cond (.t 7) .skip (.exit 0))) C_hourglassref10_Cmp_k3)
def u_C_hourglassref10_Cmp_k4 := PLift.up (@unfC _ _ (C_hourglassref10_Cmp_k4.eq_1))
def C_hourglassref10_Cmp_k5 : LCode := (.block 0 (.loop [false, false, true, true, false, true, false, false, false, false, false, false, false, false, false, false, false, false, false, false, false, false, false, false] C_hourglassref10_Cmp_k4))
def u_C_hourglassref10_Cmp_k5 := PLift.up (@unfC _ _ (C_hourglassref10_Cmp_k5.eq_1))
def C_hourglassref10_Cmp_k6 : LCode := (.seq (.seq (.sq [(zs 5 (.mv true (zi 0)))]) C_hourglassref10_Cmp_k5) (.seq (.sq [(zs 4 (.mv true (zi 0)))]) .ret))
def u_C_hourglassref10_Cmp_k6 := PLift.up (@unfC _ _ (C_hourglassref10_Cmp_k6.eq_1))
def C_hourglassref10_Cmp : LFn := ⟨24, [.t 4], (.seq (.sq [(zs 2 (.box false false (.t 0))), (zs 3 (.box false false (.t 1))), (zs 4 (.mv true (zi 0)))]) C_hourglassref10_Cmp_k6)⟩
end Go.AM
namespace Go.AM
open Go
end Go.AM
namespace Go.AM
open Go
theorem lenL_row {σ : St} {r : Ref} {off len cap : Nat} : lenL .sl (.row r off len cap) σ = some len := rfl
theorem lenL_nilS {σ : St} : lenL .sl (.s .nilS) σ = some 0 := rfl
theorem ixr_n {r : Ref} {off len cap i c : Nat} {k : IntKind} (h : i < len) (hc : c ≠ 0) : indexAddrL (.sl c) (.row r off len cap) (.s (.int k (i : Int))) = some (.ptr r (off + i * c)) := by
  have h1 : (0 : Int) ≤ i := by omega
  have h2 : (i : Int) < len := by omega
  simp [indexAddrL, h1, h2, hc]
end Go.AM
namespace Go.AM
open Go
theorem K4_ :
  (type_of% @Go.AM.lenL_row ∧ (type_of% @Go.AM.lenL_nilS ∧ type_of% @Go.AM.ixr_n)) :=
  ⟨@Go.AM.lenL_row, ⟨@Go.AM.lenL_nilS, @Go.AM.ixr_n⟩⟩
end Go.AM
namespace Go.AM
open Go
def loopO : Option HObj → Option LoopA
  | some (.loop l) => some l
  | _ => none
theorem loopOf_eq {S : List (List AV)} {H : List HObj} {h : Nat} : loopOf ⟨S, H⟩ h = loopO H[h]? := by
  show (match H[h]? with | some (.loop l) => some l | _ => none) = _
  cases H[h]? with
  | none => rfl
  | some o => cases o <;> rfl
theorem loopO_some {l : LoopA} : loopO (some (.loop l)) = some l := rfl
section
variable {C : CallW} {P : Program} {rd : Bool}
def rnd2' (h base : Nat) (K : AV → St → Prop) (e : Ex) (S : List (List AV)) (H : List HObj) : Option LoopA → Prop
  | some l => K (.bool (decide (e = .normal))) ⟨S.take base, H.set h (.loop { l with ready := decide (e = .normal), pending := if e = .normal then none else some e })⟩
  | none => False
def rnd2 (h base : Nat) (K : AV → St → Prop) : KC := fun e _ σ => rnd2' h base K e σ.stk σ.heap (loopOf σ h)
def rnd1' (C : CallW) (P : Program) (B : LCode) (h base : Nat) (K : AV → St → Prop) (fr : Fr) (S : List (List AV)) (H : List HObj) : Option LoopA → Prop
  | some l => l.ready = true ∧ l.pending = none ∧ runC C P true B [] fr ⟨S, H.set h (.loop { l with ready := false })⟩ (rnd2 h base K)
  | none => False
def rnd1 (C : CallW) (P : Program) (B : LCode) (h base : Nat) (K : AV → St → Prop) : KC := fun e fr σ => e = .normal ∧ rnd1' C P B h base K fr σ.stk σ.heap (loopOf σ h)
theorem rnd1_n {B h base K fr S H} : rnd1 C P B h base K .normal fr ⟨S, H⟩ = rnd1' C P B h base K fr S H (loopO H[h]?) := by
  unfold rnd1; rw [loopOf_eq]; simp
theorem rnd1_some {B h base K fr S H fid fr0 ps a b} : rnd1' C P B h base K fr S H (some ⟨fid, fr0, ps, a, b, true, none⟩) = runC C P true B [] fr ⟨S, H.set h (.loop ⟨fid, fr0, ps, a, b, false, none⟩)⟩ (rnd2 h base K) := by
  simp [rnd1']
theorem rnd2_e {h base K e fr S H} : rnd2 h base K e fr ⟨S, H⟩ = rnd2' h base K e S H (loopO H[h]?) := by
  unfold rnd2; rw [loopOf_eq]
theorem rnd2_norm {h base K S H fid fr0 ps a b r p} : rnd2' h base K .normal S H (some ⟨fid, fr0, ps, a, b, r, p⟩) = K (.bool true) ⟨S.take base, H.set h (.loop ⟨fid, fr0, ps, a, b, true, none⟩)⟩ := (rfl)
theorem rnd2_ret {h base K S H fid fr0 ps a b r p} : rnd2' h base K .ret S H (some ⟨fid, fr0, ps, a, b, r, p⟩) = K (.bool false) ⟨S.take base, H.set h (.loop ⟨fid, fr0, ps, a, b, false, some .ret⟩)⟩ := (rfl)
theorem rnd2_exit {h base K S H fid fr0 ps a b r p id} : rnd2' h base K (.exit id) S H (some ⟨fid, fr0, ps, a, b, r, p⟩) = K (.bool false) ⟨S.take base, H.set h (.loop ⟨fid, fr0, ps, a, b, false, some (.exit id)⟩)⟩ := (rfl)
def rfE (C : CallW) (P : Program) (rd : Bool) (is : List Item) (K : KC) (fr : Fr) (n : Nat) (S : List (List AV)) (H : List HObj) : Option LoopA → Prop
  | some l => (l.ready || l.pending.isSome) = true ∧ contK C P rd is K (l.pending.getD .normal) fr ⟨S, H.set n .dead⟩
  | none => False
def rfK (C : CallW) (P : Program) (rd : Bool) (is : List Item) (K : KC) (fr : Fr) (n : Nat) : AV → St → Prop := fun _ σ => rfE C P rd is K fr n σ.stk σ.heap (loopO σ.heap[n]?)
theorem rfK_eq {is K fr n v S H} : rfK C P rd is K fr n v ⟨S, H⟩ = rfE C P rd is K fr n S H (loopO H[n]?) := (rfl)
theorem rfE_norm {is K fr n S H fid fr0 ps a b} : rfE C P rd is K fr n S H (some ⟨fid, fr0, ps, a, b, true, none⟩) = nxt C P rd is fr ⟨S, H.set n .dead⟩ K := by simp [rfE, nxt]
theorem rfE_ret {is K fr n S H fid fr0 ps a b r} : rfE C P rd is K fr n S H (some ⟨fid, fr0, ps, a, b, r, some .ret⟩) = rtn C P rd is fr ⟨S, H.set n .dead⟩ K := by simp [rfE, rtn]
theorem rfE_exit {is K fr n S H fid fr0 ps a b r id} : rfE C P rd is K fr n S H (some ⟨fid, fr0, ps, a, b, r, some (.exit id)⟩) = ext C P rd id is fr ⟨S, H.set n .dead⟩ K := by simp [rfE, ext]
def rfn (C : CallW) (P : Program) (rd : Bool) (f : FuncId) (ps : Array Tmp) (a b : Code) (is : List Item) (fr : Fr) (S : List (List AV)) (H : List HObj) (K : KC) : AV → Prop
  | .fn (.func h) first captured => hasBody P h = true ∧ C (.fn h) (first ++ [.yield H.length] ++ captured) ⟨S, H ++ [.loop ⟨f, fr.map lasting, ps.toList, a, b, true, none⟩]⟩ (rfK C P rd is K fr H.length)
  | _ => False
theorem runC_rfun {g f ps a b is fr S H K} : runC C P false (.rfun g f ps a b) is fr ⟨S, H⟩ K = rfn C P false f ps a b is fr S H K (seL fr g) := by
  show (false = false ∧ (match seL fr g with | .fn (.func h) first captured => _ | _ => False)) = _
  simp only [true_and]
  cases hs : seL fr g with
  | fn fn first captured =>
    cases fn with
    | func h =>
      show (_ ∧ _) = (_ ∧ _)
      refine congr (congrArg And rfl) ?_
      refine congrArg (C (.fn h) (first ++ [.yield H.length] ++ captured) ⟨S, H ++ [.loop ⟨f, fr.map lasting, ps.toList, a, b, true, none⟩]⟩) ?_
      funext v σ'
      show (match σ'.heap[H.length]? with | some (.loop l) => _ | _ => False) = rfE C P false is K fr H.length σ'.stk σ'.heap (loopO σ'.heap[H.length]?)
      cases σ'.heap[H.length]? with
      | none => rfl
      | some o => cases o <;> rfl
    | _ => rfl
  | _ => rfl
theorem rfn_fn {f ps a b is fr S H K h first captured} : rfn C P rd f ps a b is fr S H K (.fn (.func h) first captured) = (hasBody P h = true ∧ C (.fn h) (first ++ [.yield H.length] ++ captured) ⟨S, H ++ [.loop ⟨f, fr.map lasting, ps.toList, a, b, true, none⟩]⟩ (rfK C P rd is K fr H.length)) := (rfl)
end
end Go.AM
namespace Go.AM
open Go
structure Stp where
  t : Int
  n : UInt8
  deriving DecidableEq
def stc (s : Stp) : List AV := [.s (.int .i64 s.t), u8 s.n]
def sA (s : Stp) : AV := .agg (stc s)
theorem stc_length (s : Stp) : (stc s).length = 2 := rfl
theorem stc_under {n : Nat} {s : Stp} : AV.under.go n (stc s) = true := rfl
theorem sA_under {n : Nat} {s : Stp} : AV.under n (sA s) = true := rfl
theorem look_stc (s : Stp) : (stc s).map AV.look = stc s := rfl
theorem fits_stc (s : Stp) : fitsL [.int .i64, .int .u8] (stc s) = true := rfl
theorem beq_stc (a b : Stp) : AV.beq.go (stc a) (stc b) = decide (a = b) := by
  cases a; cases b
  simp only [stc, AV.beq.go, AV.beq, u8_inj, Bool.and_true, Sc.int.injEq, true_and, Stp.mk.injEq, Bool.decide_and]
theorem take_stc (s : Stp) (r : List AV) : (stc s ++ r).take 2 = stc s := rfl
theorem drop_stc (s : Stp) (r : List AV) : (stc s ++ r).drop 2 = r := rfl
theorem stc_get0 (s : Stp) : (stc s)[0]? = some (.s (.int .i64 s.t)) := rfl
theorem stc_get1 (s : Stp) : (stc s)[1]? = some (u8 s.n) := rfl
def goodS (a : Stp) : Bool := decide (0 ≤ a.t) && decide (a.t ≤ 36028797018963967)
def FnS (C : CallW) (f : FuncId) (args : List AV) (v : AV) : Prop := ∀ S H (K : AV → St → Prop), K v ⟨S, H⟩ → C (.fn f) args ⟨S, H⟩ K
end Go.AM
namespace Go.AM
open Go
theorem K5_ :
  (((((type_of% @Go.AM.runC_rfun ∧ type_of% @Go.AM.rfn_fn) ∧ (type_of% @Go.AM.rfK_eq ∧ (type_of% @Go.AM.rfE_norm ∧ type_of% @Go.AM.rfE_ret))) ∧ ((type_of% @Go.AM.rfE_exit ∧ type_of% @Go.AM.rnd1_n) ∧ (type_of% @Go.AM.rnd1_some ∧ (type_of% @Go.AM.rnd2_e ∧ type_of% @Go.AM.rnd2_norm)))) ∧ (((type_of% @Go.AM.rnd2_ret ∧ type_of% @Go.AM.rnd2_exit) ∧ (type_of% @Go.AM.loopO_some ∧ (type_of% @Go.AM.setAll.eq_1 ∧ type_of% @Go.AM.setAll.eq_2))) ∧ ((type_of% @Go.AM.lasting.eq_1 ∧ (type_of% @Go.AM.stc_length ∧ type_of% @Go.AM.stc_under)) ∧ (type_of% @Go.AM.sA_under ∧ (type_of% @Go.AM.look_stc ∧ type_of% @Go.AM.fits_stc))))) ∧ ((((type_of% @Go.AM.beq_stc ∧ type_of% @Go.AM.take_stc) ∧ (type_of% @Go.AM.drop_stc ∧ (type_of% @Go.AM.stc_get0 ∧ type_of% @Go.AM.stc_get1))) ∧ ((type_of% @Go.AM.LK.fits.eq_1 ∧ type_of% @Go.AM.LK.fits.eq_2) ∧ (type_of% @Go.AM.LK.fits.eq_3 ∧ (type_of% @Go.AM.LK.fits.eq_4 ∧ type_of% @Go.AM.KK.fits.eq_1)))) ∧ (((type_of% @Go.AM.KK.fits.eq_2 ∧ type_of% @Go.AM.KK.fits.eq_3) ∧ (type_of% @Go.AM.u8_inj ∧ (type_of% @Go.AM.Sc.int.injEq ∧ type_of% @Go.AM.Sc.str.injEq))) ∧ ((type_of% @Go.AM.Sc.bool.injEq ∧ (type_of% @Go.AM.wrap_i64 ∧ type_of% @Bool.false_and)) ∧ (type_of% @Bool.and_false ∧ (type_of% @Nat.not_lt_zero ∧ type_of% @Go.AM.beq_refl)))))) :=
  ⟨⟨⟨⟨⟨@Go.AM.runC_rfun, @Go.AM.rfn_fn⟩, ⟨@Go.AM.rfK_eq, ⟨@Go.AM.rfE_norm, @Go.AM.rfE_ret⟩⟩⟩, ⟨⟨@Go.AM.rfE_exit, @Go.AM.rnd1_n⟩, ⟨@Go.AM.rnd1_some, ⟨@Go.AM.rnd2_e, @Go.AM.rnd2_norm⟩⟩⟩⟩, ⟨⟨⟨@Go.AM.rnd2_ret, @Go.AM.rnd2_exit⟩, ⟨@Go.AM.loopO_some, ⟨@Go.AM.setAll.eq_1, @Go.AM.setAll.eq_2⟩⟩⟩, ⟨⟨@Go.AM.lasting.eq_1, ⟨@Go.AM.stc_length, @Go.AM.stc_under⟩⟩, ⟨@Go.AM.sA_under, ⟨@Go.AM.look_stc, @Go.AM.fits_stc⟩⟩⟩⟩⟩, ⟨⟨⟨⟨@Go.AM.beq_stc, @Go.AM.take_stc⟩, ⟨@Go.AM.drop_stc, ⟨@Go.AM.stc_get0, @Go.AM.stc_get1⟩⟩⟩, ⟨⟨@Go.AM.LK.fits.eq_1, @Go.AM.LK.fits.eq_2⟩, ⟨@Go.AM.LK.fits.eq_3, ⟨@Go.AM.LK.fits.eq_4, @Go.AM.KK.fits.eq_1⟩⟩⟩⟩, ⟨⟨⟨@Go.AM.KK.fits.eq_2, @Go.AM.KK.fits.eq_3⟩, ⟨@Go.AM.u8_inj, ⟨@Go.AM.Sc.int.injEq, @Go.AM.Sc.str.injEq⟩⟩⟩, ⟨⟨@Go.AM.Sc.bool.injEq, ⟨@Go.AM.wrap_i64, @Bool.false_and⟩⟩, ⟨@Bool.and_false, ⟨@Nat.not_lt_zero, @Go.AM.beq_refl⟩⟩⟩⟩⟩⟩
end Go.AM
namespace Go.AM
open Go
structure Tx where
  id : Int
  snap : Stp
  stamp : Stp
  done : Bool
  reads : List Wr
  writes : List Wr
def txc (x : Tx) : List AV := [.s (.int .i64 x.id), .s (.int .i64 x.snap.t), u8 x.snap.n, .s (.int .i64 x.stamp.t), u8 x.stamp.n, .s (.bool x.done), .list .sh 18 (x.reads.map wA), .list .sh 18 (x.writes.map wA)]
def txA (x : Tx) : AV := .agg (txc x)
theorem ixl_t {l : List Tx} {i c : Nat} {k : IntKind} (h : i < l.length) (hc : c ≠ 0) : indexAddrL (.sl c) (.list .sh c (l.map txA)) (.s (.int k (i : Int))) = some (.rop (txc l[i])) := ixl_map h hc
theorem under_yield {n h : Nat} : AV.under n (.yield h) = true := rfl
def hcells : HObj → List AV
  | .cells cs => cs
  | _ => []
theorem storeL_heap {S : List (List AV)} {H l : List HObj} {j n : Nat} {vs : List AV} (hj : j < l.length) (h : (hcells (l.getD j .dead)).length = n) (hv : vs.length = n) (hn : 2 ≤ n) (hu : AV.under.go 0 vs = true) : storeL n (.ptr (.heap (H.length + j)) 0) (.agg vs) ⟨S, H ++ l⟩ = some ⟨S, H ++ l.set j (.cells vs)⟩ := by
  have e : l[j]? = some (l.getD j .dead) := by simp [List.getD, hj]
  cases hb : l.getD j .dead with
  | cells cs =>
    rw [hb] at h e
    have h : cs.length = n := h
    have hs : splice cs 0 vs = vs := by
      unfold splice
      split
      · simp at hv; omega
      · rw [List.take_zero, List.nil_append, Nat.zero_add, hv, List.drop_of_length_le (Nat.le_of_eq h), List.append_nil]
    have h' : cs.length = n := h
    simp only [storeL, AV.cells, AV.fit, hv, writeCells, boxOf_heap, app_get, e, cellsOf?, Option.bind_some, hs, setBox_heap, app_set, mayHold, hu, h', Nat.zero_add, Nat.le_refl, decide_true, Bool.and_self, if_true, true_and]
    rw [if_pos (by simp; omega)]
  | _ => rw [hb] at h; simp [hcells] at h; omega
theorem storeL_heap0 {S : List (List AV)} {H l : List HObj} {n : Nat} {vs : List AV} (hj : 0 < l.length) (h : (hcells (l.getD 0 .dead)).length = n) (hv : vs.length = n) (hn : 2 ≤ n) (hu : AV.under.go 0 vs = true) : storeL n (.ptr (.heap H.length) 0) (.agg vs) ⟨S, H ++ l⟩ = some ⟨S, H ++ l.set 0 (.cells vs)⟩ := storeL_heap (j := 0) hj h hv hn hu
theorem storeS_heap {S : List (List AV)} {H l : List HObj} {j off : Nat} {x : Sc} (hj : j < l.length) (h : off < (hcells (l.getD j .dead)).length) : storeL 1 (.ptr (.heap (H.length + j)) off) (.s x) ⟨S, H ++ l⟩ = some ⟨S, H ++ l.set j (.cells ((hcells (l.getD j .dead)).set off (.s x)))⟩ := by
  have e : l[j]? = some (l.getD j .dead) := by simp [List.getD, hj]
  cases hb : l.getD j .dead with
  | cells cs =>
    rw [hb] at h e
    have h1 : off + 1 ≤ cs.length := h
    simp only [storeL, AV.cells, AV.fit, List.length_cons, List.length_nil, writeCells, boxOf_heap, app_get, e, cellsOf?, Option.bind_some, splice, setBox_heap, app_set, mayHold, AV.under.go, AV.under, Nat.zero_add, h1, decide_true, Bool.and_self, if_true, true_and, and_self, hcells]
    rw [if_pos (by simp)]
  | _ => rw [hb] at h; simp [hcells] at h
theorem storeS_heap0 {S : List (List AV)} {H l : List HObj} {off : Nat} {x : Sc} (hj : 0 < l.length) (h : off < (hcells (l.getD 0 .dead)).length) : storeL 1 (.ptr (.heap H.length) off) (.s x) ⟨S, H ++ l⟩ = some ⟨S, H ++ l.set 0 (.cells ((hcells (l.getD 0 .dead)).set off (.s x)))⟩ := storeS_heap (j := 0) hj h
theorem readA_heap' {S : List (List AV)} {H l : List HObj} {j n off : Nat} (hj : j < l.length) (h : off + n ≤ (hcells (l.getD j .dead)).length) (hn : 0 < n) (hn1 : n ≠ 1) : readA ⟨S, H ++ l⟩ (.ptr (.heap (H.length + j)) off) n = some (.agg ((((hcells (l.getD j .dead)).drop off).take n).map AV.look)) := by
  have e : l[j]? = some (l.getD j .dead) := by simp [List.getD, hj]
  cases hb : l.getD j .dead with
  | cells cs =>
    rw [hb] at h e
    have h' : off + n ≤ cs.length := h
    simp only [readA, readCells, boxOf_heap, app_get, e, cellsOf?, Option.bind_some, if_pos (And.intro h' (Or.inl hn1)), Option.map_some, hcells]
  | _ => rw [hb] at h; simp [hcells] at h; omega
theorem readA_heap0 {S : List (List AV)} {H l : List HObj} {n off : Nat} (hj : 0 < l.length) (h : off + n ≤ (hcells (l.getD 0 .dead)).length) (hn : 0 < n) (hn1 : n ≠ 1) : readA ⟨S, H ++ l⟩ (.ptr (.heap H.length) off) n = some (.agg ((((hcells (l.getD 0 .dead)).drop off).take n).map AV.look)) := readA_heap' (j := 0) hj h hn hn1
theorem wc_get16 (w : Wr) : (wc w)[16]? = some (.s (.str w.val)) := get_kc16 w.key [.s (.str w.val), .s (.bool w.gone)]
theorem wc_get17 (w : Wr) : (wc w)[17]? = some (.s (.bool w.gone)) := get_kc17 w.key [.s (.str w.val), .s (.bool w.gone)]
theorem fits_u8b {b : UInt8} : (LK.int .u8).fits (u8 b) = true := rfl
theorem wA_eq (w : Wr) : wA w = .agg (wc w) := rfl
end Go.AM
namespace Go.AM
open Go
theorem K6_ :
  ((((type_of% @Go.AM.ixl_t ∧ type_of% @Go.AM.txc.eq_1) ∧ (type_of% @Go.AM.under_yield ∧ type_of% @Go.AM.hcells.eq_1)) ∧ ((type_of% @Go.AM.hcells.eq_2 ∧ type_of% @Go.AM.storeL_heap) ∧ (type_of% @Go.AM.storeL_heap0 ∧ type_of% @Go.AM.storeS_heap))) ∧ (((type_of% @Go.AM.storeS_heap0 ∧ type_of% @Go.AM.readA_heap') ∧ (type_of% @Go.AM.readA_heap0 ∧ type_of% @Go.AM.wA_eq)) ∧ ((type_of% @Go.AM.wc_get16 ∧ type_of% @Go.AM.wc_get17) ∧ (type_of% @Go.AM.fillL.eq_1 ∧ (type_of% @Go.AM.fillL.eq_2 ∧ type_of% @Go.AM.fits_u8b))))) :=
  ⟨⟨⟨⟨@Go.AM.ixl_t, @Go.AM.txc.eq_1⟩, ⟨@Go.AM.under_yield, @Go.AM.hcells.eq_1⟩⟩, ⟨⟨@Go.AM.hcells.eq_2, @Go.AM.storeL_heap⟩, ⟨@Go.AM.storeL_heap0, @Go.AM.storeS_heap⟩⟩⟩, ⟨⟨⟨@Go.AM.storeS_heap0, @Go.AM.readA_heap'⟩, ⟨@Go.AM.readA_heap0, @Go.AM.wA_eq⟩⟩, ⟨⟨@Go.AM.wc_get16, @Go.AM.wc_get17⟩, ⟨@Go.AM.fillL.eq_1, ⟨@Go.AM.fillL.eq_2, @Go.AM.fits_u8b⟩⟩⟩⟩⟩
end Go.AM
namespace Go.AM
open Go
theorem slc_hi {c n : Nat} {es : List AV} {k : IntKind} (h : n ≤ es.length) : sliceL (.sl c) (.list .sh c es) none (some (.s (.int k (n : Int)))) none = some (.list .sh c (es.take n)) := by
  have h0 : (0 : Int) ≤ n := by omega
  simp only [sliceL, bound, h0, if_true, Int.toNat_natCast, reduceCtorEq, if_false, Nat.zero_le, h, and_self, List.drop_zero, false_and]
theorem slc_lo {c n : Nat} {es : List AV} {k : IntKind} (h : n ≤ es.length) : sliceL (.sl c) (.list .sh c es) (some (.s (.int k (n : Int)))) none none = some (.list .sh c (es.drop n)) := by
  have h0 : (0 : Int) ≤ n := by omega
  simp only [sliceL, bound, h0, if_true, Int.toNat_natCast, reduceCtorEq, if_false, h, Nat.le_refl, and_self, false_and, List.take_length]
theorem slc_both {c m n : Nat} {es : List AV} {k k' : IntKind} (hm : m ≤ n) (h : n ≤ es.length) : sliceL (.sl c) (.list .sh c es) (some (.s (.int k (m : Int)))) (some (.s (.int k' (n : Int)))) none = some (.list .sh c ((es.take n).drop m)) := by
  have h0 : (0 : Int) ≤ n := by omega
  have h1 : (0 : Int) ≤ m := by omega
  simp only [sliceL, bound, h0, h1, if_true, Int.toNat_natCast, reduceCtorEq, if_false, hm, h, and_self, false_and]
def Own1 (fl : Fl) (es : List AV) : Prop := fl = .uniq ∨ fl = .full ∧ es = []
theorem app_join {e : ET} {fl fl2 : Fl} {es items : List AV} (h : Own1 fl es) (hu : AV.under.go 0 items = true) (hb : 2 * (es.length + items.length) * e.bytes ≤ 2 ^ 48) :
    ∃ fl', Own1 fl' (es ++ items) ∧ ∀ σ : St, appendL e false (.list fl e.c es) (.list fl2 e.c items) σ = some (.list fl' e.c (es ++ items), σ) := by
  have he : ∀ σ, elemsL e (.list fl2 e.c items) σ = some items := fun σ => by simp [elemsL]
  have hb1 : items.length * e.bytes ≤ 2 ^ 48 := Nat.le_trans (Nat.mul_le_mul_right _ (by omega)) hb
  cases items with
  | nil => exact ⟨fl, by simpa using h, fun σ => by simp [appendL, srcL, AV.isSlice, he, AV.under.go, appItems]⟩
  | cons x xs =>
    rcases h with rfl | ⟨rfl, rfl⟩
    · exact ⟨.uniq, .inl rfl, fun σ => by simp only [appendL, srcL, AV.isSlice, he, hu, appItems, Option.bind_some, if_true, ne_eq, not_true_eq_false, if_false, List.isEmpty_cons, Bool.false_eq_true, hb]⟩
    · exact ⟨.uniq, .inl rfl, fun σ => by simp only [appendL, srcL, AV.isSlice, he, hu, appItems, Option.bind_some, if_true, ne_eq, not_true_eq_false, if_false, List.isEmpty_cons, Bool.false_eq_true, List.isEmpty_nil, hb1, List.nil_append]⟩
theorem Own1.wk {fl : Fl} {c : Nat} {es : List AV} (h : Own1 fl es) {as bs : List AV} (t : WkF as bs) : WkF (.list fl c es :: as) (.list .sh c es :: bs) := by
  rcases h with rfl | ⟨rfl, rfl⟩
  · exact .uniq t
  · exact .full t
def slG (c : Nat) (es : List AV) : AV := if es = [] then .s .nilS else .list .uniq c es
theorem slG_nil {c : Nat} : slG c [] = .s .nilS := rfl
theorem slG_under {n c : Nat} {es : List AV} : AV.under n (slG c es) = true := by unfold slG; split <;> rfl
theorem app_slG {e : ET} {es : List AV} {a : AV} {σ : St} (hu : AV.under 0 a = true) (hb : 2 * (es.length + 1) * e.bytes ≤ 2 ^ 48) : appendL e false (slG e.c es) (.list .full e.c [a]) σ = some (slG e.c (es ++ [a]), σ) := by
  have he : elemsL e (.list .full e.c [a]) σ = some [a] := by simp [elemsL]
  have h1 : 1 * e.bytes ≤ 2 ^ 48 := Nat.le_trans (Nat.mul_le_mul_right _ (by omega)) hb
  have hg : AV.under.go 0 [a] = true := by simp [AV.under.go, hu]
  unfold appendL
  simp only [srcL, AV.isSlice, if_true, he, Option.bind_some, hg]
  unfold slG
  by_cases h : es = []
  · subst h
    simp [appItems] at h1 ⊢
    omega
  · rw [if_neg h]
    simp only [appItems, ne_eq, not_true_eq_false, if_false, List.isEmpty_cons, Bool.false_eq_true, List.length_cons, List.length_nil, Nat.zero_add, hb, if_true]
    simp
theorem drop_kc17 {k : Key} {a : AV} {r : List AV} : (bs k.b ++ a :: r).drop 17 = r := by rw [show bs k.b ++ a :: r = (bs k.b ++ [a]) ++ r by simp, List.drop_left' (by simp [kc_length])]
theorem take_kc17 {k : Key} {a : AV} {r : List AV} : (bs k.b ++ a :: r).take 17 = bs k.b ++ [a] := by rw [show bs k.b ++ a :: r = (bs k.b ++ [a]) ++ r by simp, List.take_left' (by simp [kc_length])]
theorem drop_kc18 {k : Key} {a b : AV} {r : List AV} : (bs k.b ++ a :: b :: r).drop 18 = r := by rw [show bs k.b ++ a :: b :: r = (bs k.b ++ [a, b]) ++ r by simp, List.drop_left' (by simp [kc_length])]
theorem take_kc18 {k : Key} {a b : AV} {r : List AV} : (bs k.b ++ a :: b :: r).take 18 = bs k.b ++ [a, b] := by rw [show bs k.b ++ a :: b :: r = (bs k.b ++ [a, b]) ++ r by simp, List.take_left' (by simp [kc_length])]
end Go.AM
namespace Go.AM
open Go
theorem K7_ :
  (((type_of% @Go.AM.slc_hi ∧ type_of% @Go.AM.slc_lo) ∧ (type_of% @Go.AM.slc_both ∧ type_of% @Go.AM.slG_nil)) ∧ ((type_of% @Go.AM.slG_under ∧ type_of% @Go.AM.drop_kc17) ∧ (type_of% @Go.AM.take_kc17 ∧ (type_of% @Go.AM.drop_kc18 ∧ type_of% @Go.AM.take_kc18)))) :=
  ⟨⟨⟨@Go.AM.slc_hi, @Go.AM.slc_lo⟩, ⟨@Go.AM.slc_both, @Go.AM.slG_nil⟩⟩, ⟨⟨@Go.AM.slG_under, @Go.AM.drop_kc17⟩, ⟨@Go.AM.take_kc17, ⟨@Go.AM.drop_kc18, @Go.AM.take_kc18⟩⟩⟩⟩
theorem A_ : type_of% RUN_ ∧ type_of% FR_ ∧ type_of% OPK_ ∧ type_of% KEY_ ∧ type_of% WR_ ∧ type_of% CHK_ ∧ type_of% K4_ ∧ type_of% K5_ ∧ type_of% K6_ ∧ type_of% K7_ ∧ type_of% @e_stu ∧ type_of% @t_stu := ⟨RUN_, FR_, OPK_, KEY_, WR_, CHK_, K4_, K5_, K6_, K7_, @e_stu, @t_stu⟩
end Go.AM
namespace Go.AM
open Go
set_option maxRecDepth 20000
abbrev eB : ET := ⟨1, false, 1, .s (.int .u8 0)⟩
theorem or128 {n : Nat} (h : n < 256) : IntKind.u8.wrap ((BitVec.ofInt IntKind.u8.bits (n : Int) ||| BitVec.ofInt IntKind.u8.bits 128).toNat : Int) = ((n % 128 + 128 : Nat) : Int) := by
  have : ∀ m : Fin 256, IntKind.u8.wrap ((BitVec.ofInt IntKind.u8.bits (m.val : Int) ||| BitVec.ofInt IntKind.u8.bits 128).toNat : Int) = ((m.val % 128 + 128 : Nat) : Int) := by decide +kernel
  exact this ⟨n, h⟩
theorem wrap_u8n (n : Nat) : IntKind.u8.wrap (n : Int) = ((n % 256 : Nat) : Int) := by
  unfold IntKind.wrap
  simp [IntKind.signed, IntKind.bits]
theorem wrap_u64n {n : Nat} (h : n < 18446744073709551616) : IntKind.u64.wrap (n : Int) = (n : Int) := by
  unfold IntKind.wrap
  simp [IntKind.signed, IntKind.bits]
  omega
theorem fdiv_n (n m : Nat) : (n : Int).fdiv (m : Int) = ((n / m : Nat) : Int) := by
  rw [Int.fdiv_eq_ediv_of_nonneg _ (by omega)]; rfl
theorem u8_of {n : Nat} (h : n < 256) : AV.s (.int .u8 (n : Int)) = u8 (UInt8.ofNat n) := by
  unfold u8; simp; omega
theorem bs_app (a b : List UInt8) : bs a ++ bs b = bs (a ++ b) := by simp [bs]
theorem bs_one (a : UInt8) : [u8 a] = bs [a] := rfl
theorem bs_low {n : Nat} (l : List UInt8) : AV.under.go n (bs l) = true := under_bs ..
def BA (a : AV) (b : List UInt8) : Prop := (∃ fl, a = .list fl 1 (bs b)) ∨ a = .s .nilS ∧ b = []
theorem BA.wk {a : AV} {b : List UInt8} (h : BA a b) {as cs : List AV} (t : WkF as cs) : WkF (a :: as) (.list .sh 1 (bs b) :: cs) := by
  rcases h with ⟨fl, rfl⟩ | ⟨rfl, rfl⟩
  · cases fl <;> first | exact .same t | exact .wk (.same .nil) t | exact .wk (.full .nil) t | exact .uniq t | exact .full t
  · exact .nilS (by omega) t
theorem BA.l {fl : Fl} {b : List UInt8} : BA (.list fl 1 (bs b)) b := .inl ⟨fl, rfl⟩
theorem BA.n : BA (.s .nilS) [] := .inr ⟨rfl, rfl⟩
def putN (v : Nat) : List UInt8 := if h : v < 128 then [UInt8.ofNat v] else UInt8.ofNat (v % 128 + 128) :: putN (v / 128)
termination_by v
decreasing_by omega
theorem putN_lt {v : Nat} (h : v < 128) : putN v = [UInt8.ofNat v] := by rw [putN, dif_pos h]
theorem putN_ge {v : Nat} (h : ¬ v < 128) : putN v = UInt8.ofNat (v % 128 + 128) :: putN (v / 128) := by rw [putN, dif_neg h]
theorem putN_len : ∀ (n v : Nat), v < 128 ^ n → (putN v).length ≤ n ∨ n = 0
  | 0, v, _ => .inr rfl
  | n + 1, v, h => by
    left
    by_cases h1 : v < 128
    · rw [putN_lt h1]; simp
    · rw [putN_ge h1, List.length_cons]
      rcases putN_len n (v / 128) (by rw [Nat.pow_succ] at h; omega) with h2 | h2
      · omega
      · subst h2; simp at h; omega
theorem putN_len10 {v : Nat} (h : v < 18446744073709551616) : (putN v).length ≤ 10 := by
  rcases putN_len 10 v (by omega) with h | h
  · exact h
  · omega
theorem app_b1 {b : List UInt8} {fl : Fl} {c : UInt8} {σ : St} (h : Own1 fl (bs b)) (hb : b.length ≤ 1000000000000) : appendL eB false (.list fl 1 (bs b)) (.list .full 1 [u8 c]) σ = some (.list .uniq 1 (bs (b ++ [c])), σ) := by
  have he : elemsL eB (.list .full 1 [u8 c]) σ = some [u8 c] := by simp [elemsL]
  have hl : (bs b).length = b.length := bs_length b
  rcases h with rfl | ⟨rfl, h⟩
  · have hb' : 2 * ((bs b).length + 1) * 1 ≤ 2 ^ 48 := by rw [hl]; omega
    simp only [appendL, srcL, AV.isSlice, he, AV.under.go, under_u8, appItems, Option.bind_some, if_true, ne_eq, not_true_eq_false, if_false, List.isEmpty_cons, Bool.false_eq_true, List.length_cons, List.length_nil, Nat.zero_add, hb', Bool.and_self]
    rw [bs_one, bs_app]
  · have hb0 : b = [] := by simpa [bs] using h
    subst hb0
    simp [appendL, srcL, AV.isSlice, he, AV.under.go, under_u8, appItems, bs]
theorem app_bs {b d : List UInt8} {fl fl2 : Fl} (h : Own1 fl (bs b)) (hb : b.length + d.length ≤ 1000000000000) : ∃ fl', Own1 fl' (bs (b ++ d)) ∧ ∀ σ : St, appendL eB false (.list fl 1 (bs b)) (.list fl2 1 (bs d)) σ = some (.list fl' 1 (bs (b ++ d)), σ) := by
  have := app_join (e := eB) (fl2 := fl2) (items := bs d) h (bs_low d) (by simp only [bs_length]; omega)
  rwa [bs_app] at this
theorem app_bu {b d : List UInt8} {fl2 : Fl} {σ : St} (hb : b.length + d.length ≤ 1000000000000) : appendL eB false (.list .uniq 1 (bs b)) (.list fl2 1 (bs d)) σ = some (.list .uniq 1 (bs (b ++ d)), σ) := by
  obtain ⟨fl', h1, h2⟩ := app_bs (b := b) (d := d) (fl := .uniq) (fl2 := fl2) (.inl rfl) hb
  rw [h2]
  cases d with
  | nil =>
    have := h2 σ
    have he : elemsL eB (.list fl2 1 (bs [])) σ = some [] := by simp [elemsL, bs]
    simp only [appendL, srcL, AV.isSlice, he, AV.under.go, appItems, if_true, Option.bind_some, ne_eq, not_true_eq_false, if_false, List.isEmpty_nil, Option.some.injEq, Prod.mk.injEq, AV.list.injEq, true_and, and_true] at this
    rw [← this.1]
  | cons x d =>
    rcases h1 with rfl | ⟨rfl, h⟩
    · rfl
    · simp [bs] at h
theorem app_bstr {b d : List UInt8} {σ : St} (hb : b.length + d.length ≤ 1000000000000) : appendL eB true (.list .uniq 1 (bs b)) (.s (.str d)) σ = some (.list .uniq 1 (bs (b ++ d)), σ) := by
  have h := app_bu (b := b) (d := d) (fl2 := .sh) (σ := σ) hb
  have he : elemsL eB (.list .sh 1 (bs d)) σ = some (bs d) := by simp [elemsL]
  have he2 : elemsL eB (.s (.str d)) σ = some (bs d) := rfl
  rw [← h]
  unfold appendL
  simp only [srcL, AV.isStr, AV.isSlice, if_true, he, he2]
end Go.AM
namespace Go.AM
open Go
set_option maxRecDepth 20000
theorem tdiv7 (v : Nat) : (v : Int).tdiv 128 = ((v / 128 : Nat) : Int) := rfl
theorem tmod7 (v : Nat) : (v : Int).tmod 128 = ((v % 128 : Nat) : Int) := rfl
def PutS (C : CallW) (f : FuncId) : Prop := ∀ (a : AV) (b : List UInt8) (v : Nat) S H (K : AV → St → Prop), BA a b → b.length ≤ 1000000000 → v < 18446744073709551616 → K (.list .uniq 1 (bs (b ++ putN v))) ⟨S, H⟩ → C (.fn f) [a, .s (.int .u64 v)] ⟨S, H⟩ K
set_option maxHeartbeats 4000000 in
theorem bits_Put_spec {C : CallW} (hC : LeC C C) (P : Program) : ∀ (b : List UInt8) (v : Nat) S H (K : AV → St → Prop), b.length ≤ 1000000000 → v < 18446744073709551616 → K (.list .uniq 1 (bs (b ++ putN v))) ⟨S, H⟩ → runL C P C_bits_Put [.list .sh 1 (bs b), .s (.int .u64 v)] ⟨S, H⟩ K := by
  intro b v S H K hb hv hK
  obtain ⟨fl0, o0, a0⟩ := app_bs (b := []) (d := b) (fl := .full) (fl2 := .sh) (.inr ⟨rfl, rfl⟩) (by simp; omega)
  rw [List.nil_append] at o0 a0
  simp only [bs, List.map_nil] at a0
  change ∀ σ : St, appendL eB false (.list .full 1 []) (.list .sh 1 (bs b)) σ = some (.list fl0 1 (bs b), σ) at a0
  simp only [eB] at a0
  simp only [C_bits_Put, A_, simprocAttr, ne_eq, U_bits_Put.1, a0]
  refine loop_rule hC (α := Nat × List UInt8 × Fl) (fun a => a.1) (fun a => [.undef, .s (.int .u64 a.1), .undef, .undef, .undef, .list a.2.2 1 (bs a.2.1), .undef, .undef, .undef, .undef, .undef, .undef, .undef, .undef, .undef, .undef, .undef, .undef, .undef, .undef, .undef, .undef, .undef, .undef]) (fun _ => S) (fun _ => H) (fun a => Own1 a.2.2 (bs a.2.1) ∧ a.1 < 18446744073709551616 ∧ a.2.1 ++ putN a.1 = b ++ putN v ∧ a.2.1.length ≤ 1000000010) (v, b, fl0) ⟨o0, hv, rfl, by dsimp only; omega⟩ rfl (by simp) rfl (fun a _ => by simp [AV.under, AV.under.go]) ?_
  rintro ⟨w, cur, fl⟩ ⟨ho, hw, he, hl⟩ ih
  dsimp only at ho hw he hl ih ⊢
  by_cases h : w < 128
  · have h' : ¬ ((127 : Int) < (w : Int)) := by omega
    have hc : IntKind.u8.wrap (w : Int) = (w : Int) := by rw [wrap_u8n]; omega
    have hu : AV.s (.int .u8 (w : Int)) = u8 (UInt8.ofNat w) := u8_of (by omega)
    have ha := app_b1 (c := UInt8.ofNat w) (σ := ⟨S, H⟩) ho (by omega)
    simp only [eB, ← hu] at ha
    rw [putN_lt h] at he
    rw [← he] at hK
    simp only [A_, simprocAttr, ne_eq, U_bits_Put.1, convL, h', hc, ha]
    exact hK
  · have h' : ((127 : Int) < (w : Int)) := by omega
    have hc := wrap_u8n w
    have ho8 := or128 (n := w % 256) (by omega)
    have hu : AV.s (.int .u8 ((w % 256 % 128 + 128 : Nat) : Int)) = u8 (UInt8.ofNat (w % 128 + 128)) := by rw [u8_of (by omega)]; congr 1; congr 1; omega
    have ha := app_b1 (c := UInt8.ofNat (w % 128 + 128)) (σ := ⟨S, H⟩) ho (by omega)
    simp only [eB, ← hu] at ha
    have hs : (w : Int).fdiv (2 ^ min 7 IntKind.u64.bits) = ((w / 128 : Nat) : Int) := fdiv_n w 128
    have hn : ¬ ((7 : Int) < 0) := by omega
    have h7 : ((7 : Int).toNat) = 7 := rfl
    rw [putN_ge h] at he
    have hll := putN_len10 hv
    have hl2 : (cur ++ [UInt8.ofNat (w % 128 + 128)]).length ≤ 1000000010 := by
      have := congrArg List.length he
      simp only [List.length_append, List.length_cons] at this ⊢
      simp; omega
    simp only [A_, simprocAttr, ne_eq, U_bits_Put.1, convL, h', hc, ho8, ha, hs, hn, h7]
    exact ih (w / 128, _, _) _ _ _ (by dsimp only; omega) ⟨.inl rfl, by dsimp only; omega, by dsimp only; rw [← he]; simp, hl2⟩ rfl (by simp) rfl
theorem rec_num_spec {C : CallW} (P : Program) {c : Nat → FuncId} (h0 : PutS C (c 0)) : ∀ (b : List UInt8) (v : Nat) S H (K : AV → St → Prop), b.length ≤ 1000000000 → v < 9223372036854775808 → K (.list .uniq 1 (bs (b ++ putN v))) ⟨S, H⟩ → runL C P (C_rec_num c) [.list .sh 1 (bs b), .s (.int .i64 v)] ⟨S, H⟩ K := by
  intro b v S H K hb hv hK
  have hc := wrap_u64n (n := v) (by omega)
  simp only [C_rec_num, A_, simprocAttr, ne_eq, (U_rec_num _).1, convL, hc]
  refine h0 _ b v _ _ _ .l hb (by omega) ?_
  simp only [A_, simprocAttr, ne_eq, (U_rec_num _).1]
  exact hK
def NumS (C : CallW) (f : FuncId) : Prop := ∀ (a : AV) (b : List UInt8) (v : Nat) S H (K : AV → St → Prop), BA a b → b.length ≤ 1000000000 → v < 9223372036854775808 → K (.list .uniq 1 (bs (b ++ putN v))) ⟨S, H⟩ → C (.fn f) [a, .s (.int .i64 v)] ⟨S, H⟩ K
def putFl (v : Nat) : Fl := if v < 128 then .full else .own
def PutRS (C : CallW) (f : FuncId) (v : Nat) : Prop := ∀ S H (K : AV → St → Prop), K (.list .sh 1 (bs (putN v))) ⟨S, H⟩ → C (.fn f) [.s (.int .u64 v)] ⟨S, H⟩ K
set_option maxHeartbeats 4000000 in
theorem ref1_Put_spec {C : CallW} (P : Program) {c : Nat → FuncId} (v : Nat) (h0 : ∀ w < v, PutRS C (c 0) w) : ∀ S H (K : AV → St → Prop), v < 18446744073709551616 → K (.list (putFl v) 1 (bs (putN v))) ⟨S, H⟩ → runL C P (C_hourglassref1_Put c) [.s (.int .u64 v)] ⟨S, H⟩ K := by
  intro S H K hv hK
  by_cases h : v < 128
  · have h' : ((v : Int) < 128) := by omega
    have hc : IntKind.u8.wrap (v : Int) = (v : Int) := by rw [wrap_u8n]; omega
    have hu : AV.s (.int .u8 (v : Int)) = u8 (UInt8.ofNat v) := u8_of (by omega)
    rw [putFl, if_pos h, putN_lt h] at hK
    simp only [C_hourglassref1_Put, A_, simprocAttr, ne_eq, (U_hourglassref1_Put _).1, convL, h', hc]
    rw [hu]
    exact hK
  · have h' : ¬ ((v : Int) < 128) := by omega
    have hc : IntKind.u8.wrap ((v % 128 : Nat) : Int) = ((v % 128 : Nat) : Int) := by rw [wrap_u8n]; omega
    have hc2 : IntKind.u8.wrap (((v % 128 : Nat) : Int) + 128) = ((v % 128 + 128 : Nat) : Int) := by
      rw [show ((v % 128 : Nat) : Int) + 128 = ((v % 128 + 128 : Nat) : Int) by omega, wrap_u8n]; omega
    have hu : AV.s (.int .u8 ((v % 128 + 128 : Nat) : Int)) = u8 (UInt8.ofNat (v % 128 + 128)) := u8_of (by omega)
    have hd : IntKind.u64.wrap ((v / 128 : Nat) : Int) = ((v / 128 : Nat) : Int) := wrap_u64n (by omega)
    have hd7 := tdiv7 v
    have hm7 := tmod7 v
    have hz : ¬ ((128 : Int) = 0) := by omega
    have ha : ∀ fl (σ : St), appendL eB false (.list .full 1 [u8 (UInt8.ofNat (v % 128 + 128))]) (.list fl 1 (bs (putN (v / 128)))) σ = some (.list .own 1 (bs (putN v)), σ) := by
      intro fl σ
      have hl := putN_len10 (v := v / 128) (by omega)
      have hne : putN (v / 128) ≠ [] := by
        by_cases h : v / 128 < 128
        · rw [putN_lt h]; simp
        · rw [putN_ge h]; simp
      have he : elemsL eB (.list fl 1 (bs (putN (v / 128)))) σ = some (bs (putN (v / 128))) := by simp [elemsL]
      have hee : (bs (putN (v / 128))).isEmpty = false := by cases hp : putN (v / 128) with
        | nil => exact absurd hp hne
        | cons x l => rfl
      rw [putN_ge h]
      have hb : 2 * (0 + 1 + (bs (putN (v / 128))).length) * 1 ≤ 2 ^ 48 := by rw [bs_length]; omega
      unfold appendL
      simp only [srcL, AV.isSlice, if_true, he, Option.bind_some, bs_low, appItems, ne_eq, not_true_eq_false, if_false, hee, Bool.false_eq_true, List.isEmpty_cons, List.length_cons, List.length_nil, hb]
      rfl
    simp only [eB, ← hu] at ha
    have hf : putFl v = .own := by rw [putFl, if_neg h]
    rw [hf] at hK
    simp only [C_hourglassref1_Put, A_, simprocAttr, ne_eq, (U_hourglassref1_Put _).1, convL, h', hd7, hm7, hz, hc, hc2, hd]
    refine h0 (v / 128) (by omega) _ _ _ ?_
    simp only [A_, simprocAttr, ne_eq, (U_hourglassref1_Put _).1, ha]
    exact hK
theorem ref14_Num_spec {C : CallW} (P : Program) {c : Nat → FuncId} (h0 : ∀ v, v < 18446744073709551616 → PutRS C (c 0) v) : ∀ (b : List UInt8) (v : Nat) S H (K : AV → St → Prop), b.length ≤ 1000000000 → v < 18446744073709551616 → K (.list .uniq 1 (bs (b ++ putN v))) ⟨S, H⟩ → runL C P (C_hourglassref14_Num c) [.list .sh 1 (bs b), .s (.int .u64 v)] ⟨S, H⟩ K := by
  intro b v S H K hb hv hK
  obtain ⟨fl0, o0, a0⟩ := app_bs (b := []) (d := b) (fl := .full) (fl2 := .sh) (.inr ⟨rfl, rfl⟩) (by simp; omega)
  rw [List.nil_append] at o0 a0
  simp only [bs, List.map_nil] at a0
  change ∀ σ : St, appendL eB false (.list .full 1 []) (.list .sh 1 (bs b)) σ = some (.list fl0 1 (bs b), σ) at a0
  have hl := putN_len10 hv
  obtain ⟨fl1, o1, a1⟩ := app_bs (b := b) (d := putN v) (fl2 := .sh) o0 (by omega)
  have hf : fl1 = .uniq := by
    rcases o1 with h | ⟨_, h⟩
    · exact h
    · have := congrArg List.length h
      rw [bs_length, List.length_append] at this
      by_cases h2 : v < 128
      · rw [putN_lt h2] at this; simp at this
      · rw [putN_ge h2] at this; simp at this
  subst hf
  simp only [eB] at a0 a1
  simp only [C_hourglassref14_Num, A_, simprocAttr, ne_eq, (U_hourglassref14_Num _).1, a0]
  refine h0 v hv _ _ _ ?_
  simp only [A_, simprocAttr, ne_eq, (U_hourglassref14_Num _).1, a1]
  exact hK
theorem ref14_flag_spec {C : CallW} (P : Program) : ∀ (v : Bool) S H (K : AV → St → Prop), K (u8 (if v then 1 else 0)) ⟨S, H⟩ → runL C P C_hourglassref14_flag [.s (.bool v)] ⟨S, H⟩ K := by
  intro v S H K hK
  cases v with
  | true => simp only [C_hourglassref14_flag, A_, simprocAttr, ne_eq, U_hourglassref14_flag.1]; exact hK
  | false => simp only [C_hourglassref14_flag, A_, simprocAttr, ne_eq, U_hourglassref14_flag.1]; exact hK
theorem ref14_Txt_spec {C : CallW} (P : Program) {c : Nat → FuncId} (h0 : PutS C (c 0)) : ∀ (b s : List UInt8) S H (K : AV → St → Prop), b.length ≤ 1000000000 → s.length ≤ 1000000000 → K (.list .uniq 1 (bs (b ++ (putN s.length ++ s)))) ⟨S, H⟩ → runL C P (C_hourglassref14_Txt c) [.list .sh 1 (bs b), .s (.str s)] ⟨S, H⟩ K := by
  intro b s S H K hb hs hK
  have hc := wrap_u64n (n := s.length) (by omega)
  simp only [C_hourglassref14_Txt, A_, simprocAttr, ne_eq, (U_hourglassref14_Txt _).1, convL, hc]
  refine h0 _ b s.length _ _ _ .l hb (by omega) ?_
  have hl := putN_len10 (v := s.length) (by omega)
  have ha := app_bstr (b := b ++ putN s.length) (d := s) (σ := ⟨S, H⟩) (by simp; omega)
  simp only [eB, List.append_assoc] at ha
  simp only [A_, simprocAttr, ne_eq, (U_hourglassref14_Txt _).1, ha]
  exact hK
end Go.AM
namespace Go.AM
open Go
set_option maxRecDepth 20000
theorem ref6_Good_spec {C : CallW} (P : Program) (a : Stp) : ∀ S H (K : AV → St → Prop), K (.bool (goodS a)) ⟨S, H⟩ → runL C P C_hourglassref6_Good [.agg (stc a)] ⟨S, H⟩ K := by
  intro S H K hK
  unfold goodS at hK
  by_cases h1 : 0 ≤ a.t
  · by_cases h2 : a.t ≤ 36028797018963967
    · simp only [stc, C_hourglassref6_Good, RUN_, U_hourglassref6_Good.1, FR_, simprocAttr, if_true, if_false, ite_true, ite_false, ne_eq, eq_self, OPK_, KEY_, h1, h2]
      simpa [h1, h2] using hK
    · simp only [stc, C_hourglassref6_Good, RUN_, U_hourglassref6_Good.1, FR_, simprocAttr, if_true, if_false, ite_true, ite_false, ne_eq, eq_self, OPK_, KEY_, h1, h2]
      simpa [h1, h2] using hK
  · simp only [stc, C_hourglassref6_Good, RUN_, U_hourglassref6_Good.1, FR_, simprocAttr, if_true, if_false, ite_true, ite_false, ne_eq, eq_self, OPK_, KEY_, h1]
    simpa [h1] using hK
end Go.AM
namespace Go.AM
open Go
set_option maxRecDepth 20000
def zig (v : Int) : Nat := if 0 ≤ v then (2 * v).toNat else (-2 * v - 1).toNat
def zag (n : Nat) : Int := if n % 2 = 0 then (n / 2 : Nat) else -((n / 2 : Nat) : Int) - 1
theorem zag_zig (v : Int) : zag (zig v) = v := by
  unfold zag zig
  split <;> split <;> omega
theorem zig_lt {v : Int} (h1 : -9223372036854775808 ≤ v) (h2 : v ≤ 9223372036854775807) : zig v < 18446744073709551616 := by
  unfold zig; split <;> omega
theorem wrap_u64 {x : Int} : IntKind.u64.wrap x = x % 18446744073709551616 := by
  unfold IntKind.wrap
  simp [IntKind.signed, IntKind.bits]
theorem wrap_i64' {x : Int} (h1 : 0 ≤ x) (h2 : x < 18446744073709551616) : IntKind.i64.wrap x = if x < 9223372036854775808 then x else x - 18446744073709551616 := by
  unfold IntKind.wrap
  simp [IntKind.signed, IntKind.bits]
  split <;> split <;> omega
theorem ofInt_toNat {a : Int} (h1 : 0 ≤ a) (h2 : a < 18446744073709551616) : (BitVec.ofInt 64 a).toNat = a.toNat := by
  rw [BitVec.toNat_ofInt]
  congr 1
  exact Int.emod_eq_of_lt h1 (by simpa using h2)
theorem xor_zero (a : Int) (h1 : 0 ≤ a) (h2 : a < 18446744073709551616) : ((BitVec.ofInt 64 a ^^^ BitVec.ofInt 64 0).toNat : Int) = a := by
  rw [show BitVec.ofInt 64 0 = 0#64 from rfl, BitVec.xor_zero, ofInt_toNat h1 h2]; omega
theorem xor_ones (a : Int) (h1 : 0 ≤ a) (h2 : a < 18446744073709551616) : ((BitVec.ofInt 64 a ^^^ BitVec.ofInt 64 (-1)).toNat : Int) = 18446744073709551615 - a := by
  rw [show BitVec.ofInt 64 (-1) = BitVec.allOnes 64 from by decide +kernel, BitVec.xor_allOnes, BitVec.toNat_not, ofInt_toNat h1 h2]
  omega
theorem xor_ones' (a : Int) (h1 : 0 ≤ a) (h2 : a < 18446744073709551616) : ((BitVec.ofInt 64 a ^^^ BitVec.ofInt 64 18446744073709551615).toNat : Int) = 18446744073709551615 - a := by
  rw [show BitVec.ofInt 64 18446744073709551615 = BitVec.ofInt 64 (-1) from by decide +kernel]; exact xor_ones a h1 h2
theorem xor_zero_u (a : Int) (h1 : 0 ≤ a) (h2 : a < 18446744073709551616) : ((BitVec.ofInt IntKind.u64.bits a ^^^ BitVec.ofInt IntKind.u64.bits 0).toNat : Int) = a := xor_zero a h1 h2
theorem xor_ones_u (a : Int) (h1 : 0 ≤ a) (h2 : a < 18446744073709551616) : ((BitVec.ofInt IntKind.u64.bits a ^^^ BitVec.ofInt IntKind.u64.bits 18446744073709551615).toNat : Int) = 18446744073709551615 - a := xor_ones' a h1 h2
theorem xor_zero_i (a : Int) (h1 : 0 ≤ a) (h2 : a < 18446744073709551616) : ((BitVec.ofInt IntKind.i64.bits a ^^^ BitVec.ofInt IntKind.i64.bits 0).toNat : Int) = a := xor_zero a h1 h2
theorem xor_ones_i (a : Int) (h1 : 0 ≤ a) (h2 : a < 18446744073709551616) : ((BitVec.ofInt IntKind.i64.bits a ^^^ BitVec.ofInt IntKind.i64.bits (-1)).toNat : Int) = 18446744073709551615 - a := xor_ones a h1 h2
theorem bits_Zig_spec {C : CallW} (P : Program) : ∀ (v : Int) S H (K : AV → St → Prop), -9223372036854775808 ≤ v → v ≤ 9223372036854775807 → K (.s (.int .u64 (zig v : Nat))) ⟨S, H⟩ → runL C P C_bits_Zig [.s (.int .i64 v)] ⟨S, H⟩ K := by
  intro v S H K h1 h2 hK
  have n1 : ¬ ((1 : Int) < 0) := by omega
  have n63 : ¬ ((63 : Int) < 0) := by omega
  have t1 : ((1 : Int).toNat) = 1 := rfl
  have t63 : ((63 : Int).toNat) = 63 := rfl
  have m1 : (2 : Int) ^ min 1 IntKind.u64.bits = 2 := rfl
  have m63 : (2 : Int) ^ min 63 IntKind.i64.bits = 9223372036854775808 := rfl
  have hb : IntKind.u64.bits = 64 := rfl
  have hd : v.fdiv 9223372036854775808 = if 0 ≤ v then 0 else -1 := by
    rw [Int.fdiv_eq_ediv_of_nonneg _ (by omega)]
    split <;> omega
  by_cases h : 0 ≤ v
  · rw [if_pos h] at hd
    have w1 : IntKind.u64.wrap v = v := by rw [wrap_u64]; omega
    have w2 : IntKind.u64.wrap (v * 2) = 2 * v := by rw [wrap_u64]; omega
    have w3 : IntKind.u64.wrap 0 = 0 := by rw [wrap_u64]; rfl
    have x1 := xor_zero_u (2 * v) (by omega) (by omega)
    have w4 : IntKind.u64.wrap (2 * v) = ((zig v : Nat) : Int) := by rw [wrap_u64]; unfold zig; rw [if_pos h]; omega
    simp only [C_bits_Zig, A_, simprocAttr, ne_eq, U_bits_Zig.1, convL, n1, n63, t1, t63, m1, m63, hd, w1, w2, w3, x1, w4]
    exact hK
  · rw [if_neg h] at hd
    have w1 : IntKind.u64.wrap v = v + 18446744073709551616 := by rw [wrap_u64]; omega
    have w2 : IntKind.u64.wrap ((v + 18446744073709551616) * 2) = 2 * v + 18446744073709551616 := by rw [wrap_u64]; omega
    have w3 : IntKind.u64.wrap (-1) = 18446744073709551615 := by rw [wrap_u64]; rfl
    have x1 := xor_ones_u (2 * v + 18446744073709551616) (by omega) (by omega)
    have w4 : IntKind.u64.wrap (18446744073709551615 - (2 * v + 18446744073709551616)) = ((zig v : Nat) : Int) := by rw [wrap_u64]; unfold zig; rw [if_neg h]; omega
    simp only [C_bits_Zig, A_, simprocAttr, ne_eq, U_bits_Zig.1, convL, n1, n63, t1, t63, m1, m63, hd, w1, w2, w3, x1, w4]
    exact hK
theorem ref1_Zig_spec {C : CallW} (P : Program) : ∀ (v : Int) S H (K : AV → St → Prop), -9223372036854775808 ≤ v → v ≤ 9223372036854775807 → K (.s (.int .u64 (zig v : Nat))) ⟨S, H⟩ → runL C P C_hourglassref1_Zig [.s (.int .i64 v)] ⟨S, H⟩ K := by
  intro v S H K h1 h2 hK
  by_cases h : 0 ≤ v
  · have w1 : IntKind.u64.wrap v = v := by rw [wrap_u64]; omega
    have w4 : IntKind.u64.wrap (2 * v) = ((zig v : Nat) : Int) := by rw [wrap_u64]; unfold zig; rw [if_pos h]; omega
    simp only [C_hourglassref1_Zig, A_, simprocAttr, ne_eq, U_hourglassref1_Zig.1, convL, h, w1, w4]
    exact hK
  · have w1 : IntKind.i64.wrap (v + 1) = v + 1 := wrap_i64 (by omega) (by omega)
    have w2 : IntKind.i64.wrap (0 - (v + 1)) = -1 - v := by rw [wrap_i64 (by omega) (by omega)]; omega
    have w3 : IntKind.u64.wrap (-1 - v) = -1 - v := by rw [wrap_u64]; omega
    have w4 : IntKind.u64.wrap (2 * (-1 - v)) = 2 * (-1 - v) := by rw [wrap_u64]; omega
    have w5 : IntKind.u64.wrap (2 * (-1 - v) + 1) = ((zig v : Nat) : Int) := by rw [wrap_u64]; unfold zig; rw [if_neg h]; omega
    simp only [C_hourglassref1_Zig, A_, simprocAttr, ne_eq, U_hourglassref1_Zig.1, convL, h, w1, w2, w3, w4, w5]
    exact hK
theorem and_one (n : Nat) (h : n < 18446744073709551616) : ((BitVec.ofInt IntKind.u64.bits (n : Int) &&& BitVec.ofInt IntKind.u64.bits 1).toNat : Int) = ((n % 2 : Nat) : Int) := by
  show ((BitVec.ofInt 64 (n : Int) &&& BitVec.ofInt 64 1).toNat : Int) = _
  rw [BitVec.toNat_and, ofInt_toNat (by omega) (by omega)]
  show ((n &&& 1 : Nat) : Int) = _
  rw [Nat.and_one_is_mod]
theorem bits_Zag_spec {C : CallW} (P : Program) : ∀ (n : Nat) S H (K : AV → St → Prop), n < 18446744073709551616 → K (.s (.int .i64 (zag n))) ⟨S, H⟩ → runL C P C_bits_Zag [.s (.int .u64 n)] ⟨S, H⟩ K := by
  intro n S H K h hK
  have n1 : ¬ ((1 : Int) < 0) := by omega
  have t1 : ((1 : Int).toNat) = 1 := rfl
  have m1 : (2 : Int) ^ min 1 IntKind.u64.bits = 2 := rfl
  have hb : IntKind.u64.bits = 64 := rfl
  have hb2 : IntKind.i64.bits = 64 := rfl
  have hd : (n : Int).fdiv 2 = ((n / 2 : Nat) : Int) := fdiv_n n 2
  have w1 : IntKind.i64.wrap ((n / 2 : Nat) : Int) = ((n / 2 : Nat) : Int) := wrap_i64 (by omega) (by omega)
  have w2 : IntKind.u64.wrap ((n % 2 : Nat) : Int) = ((n % 2 : Nat) : Int) := by rw [wrap_u64]; omega
  have w3 : IntKind.i64.wrap ((n % 2 : Nat) : Int) = ((n % 2 : Nat) : Int) := wrap_i64 (by omega) (by omega)
  have a1 := and_one n h
  by_cases he : n % 2 = 0
  · have w4 : IntKind.i64.wrap (0 - ((n % 2 : Nat) : Int)) = 0 := by rw [he]; exact wrap_i64 (by omega) (by omega)
    have x1 := xor_zero_i ((n / 2 : Nat) : Int) (by omega) (by omega)
    have w5 : IntKind.i64.wrap ((n / 2 : Nat) : Int) = zag n := by rw [w1]; unfold zag; rw [if_pos he]
    simp only [C_bits_Zag, A_, simprocAttr, ne_eq, U_bits_Zag.1, convL, n1, t1, m1, hd, w1, a1, w2, w3, w4, x1]
    rw [← w5, w1] at hK
    exact hK
  · have w4 : IntKind.i64.wrap (0 - ((n % 2 : Nat) : Int)) = -1 := by rw [show n % 2 = 1 by omega]; exact wrap_i64 (by omega) (by omega)
    have x1 := xor_ones_i ((n / 2 : Nat) : Int) (by omega) (by omega)
    have w5 : IntKind.i64.wrap (18446744073709551615 - ((n / 2 : Nat) : Int)) = zag n := by
      rw [wrap_i64' (by omega) (by omega), if_neg (by omega)]; unfold zag; rw [if_neg he]; omega
    simp only [C_bits_Zag, A_, simprocAttr, ne_eq, U_bits_Zag.1, convL, n1, t1, m1, hd, w1, a1, w2, w3, w4, x1, w5]
    exact hK
theorem ref1_Zag_spec {C : CallW} (P : Program) : ∀ (n : Nat) S H (K : AV → St → Prop), n < 18446744073709551616 → K (.s (.int .i64 (zag n))) ⟨S, H⟩ → runL C P C_hourglassref1_Zag [.s (.int .u64 n)] ⟨S, H⟩ K := by
  intro n S H K h hK
  have hz : ¬ ((2 : Int) = 0) := by omega
  have hm : (n : Int).tmod 2 = ((n % 2 : Nat) : Int) := rfl
  have hd : (n : Int).tdiv 2 = ((n / 2 : Nat) : Int) := rfl
  have w0 : IntKind.u64.wrap ((n / 2 : Nat) : Int) = ((n / 2 : Nat) : Int) := by rw [wrap_u64]; omega
  have w1 : IntKind.i64.wrap ((n / 2 : Nat) : Int) = ((n / 2 : Nat) : Int) := wrap_i64 (by omega) (by omega)
  by_cases he : n % 2 = 0
  · have he' : ((n % 2 : Nat) : Int) = 0 := by omega
    have e : zag n = ((n / 2 : Nat) : Int) := by unfold zag; rw [if_pos he]
    rw [e] at hK
    simp only [C_hourglassref1_Zag, A_, simprocAttr, ne_eq, U_hourglassref1_Zag.1, convL, hz, hm, hd, he', w0, w1]
    exact hK
  · have he' : ((n % 2 : Nat) : Int) = 1 := by omega
    have w2 : IntKind.i64.wrap (0 - ((n / 2 : Nat) : Int)) = 0 - ((n / 2 : Nat) : Int) := wrap_i64 (by omega) (by omega)
    have w3 : IntKind.i64.wrap (0 - ((n / 2 : Nat) : Int) - 1) = zag n := by rw [wrap_i64 (by omega) (by omega)]; unfold zag; rw [if_neg he]; omega
    simp only [C_hourglassref1_Zag, A_, simprocAttr, ne_eq, U_hourglassref1_Zag.1, convL, hz, hm, hd, he', w0, w1, w2, w3]
    exact hK
end Go.AM
namespace Go.AM
open Go
set_option maxRecDepth 20000
def getG : Nat → Nat → List UInt8 → Option (Nat × Nat)
  | _, _, [] => none
  | i, acc, x :: b => if i = 9 ∧ 1 < x.toNat then none else if x.toNat < 128 then (if x = 0 ∧ 0 < i then none else some (acc + x.toNat % 128 * 2 ^ (7 * i), i + 1)) else if i = 9 then none else getG (i + 1) (acc + x.toNat % 128 * 2 ^ (7 * i)) b
def getN (b : List UInt8) : Nat × Nat := (getG 0 0 b).getD (0, 0)
theorem getG_bound : ∀ (b : List UInt8) (i acc v n : Nat), i ≤ 9 → acc < 2 ^ (7 * i) → getG i acc b = some (v, n) → v < 18446744073709551616 ∧ i < n ∧ n ≤ i + b.length ∧ n ≤ 10
  | [], i, acc, v, n, _, _, h => by simp [getG] at h
  | x :: b, i, acc, v, n, hi, ha, h => by
    unfold getG at h
    split at h
    · cases h
    rename_i h1
    have hx : x.toNat % 128 < 128 := Nat.mod_lt _ (by omega)
    have hb : acc + x.toNat % 128 * 2 ^ (7 * i) < 2 ^ (7 * (i + 1)) := by
      rw [show 7 * (i + 1) = 7 * i + 7 by omega, Nat.pow_add]
      have : x.toNat % 128 * 2 ^ (7 * i) ≤ 127 * 2 ^ (7 * i) := Nat.mul_le_mul_right _ (by omega)
      have h128 : (2:Nat) ^ 7 = 128 := rfl
      rw [h128]; omega
    split at h
    · rename_i h2
      split at h
      · cases h
      · injection h with h; injection h with h3 h4
        subst h3 h4
        refine ⟨?_, by omega, by simp, by omega⟩
        by_cases h9 : i = 9
        · subst h9
          have : x.toNat ≤ 1 := by omega
          have h63 : (2:Nat) ^ (7 * 9) = 9223372036854775808 := rfl
          rw [h63] at ha ⊢
          have : x.toNat % 128 * 9223372036854775808 ≤ 1 * 9223372036854775808 := Nat.mul_le_mul_right _ (by omega)
          omega
        · have : (2:Nat) ^ (7 * (i + 1)) ≤ 2 ^ 63 := Nat.pow_le_pow_right (by omega) (by omega)
          have h63 : (2:Nat) ^ 63 = 9223372036854775808 := rfl
          omega
    · split at h
      · cases h
      · obtain ⟨a, b', c, d⟩ := getG_bound b (i + 1) _ v n (by omega) hb h
        exact ⟨a, by omega, by simp; omega, d⟩
theorem getN_bound (b : List UInt8) : (getN b).1 < 18446744073709551616 ∧ (getN b).2 ≤ b.length ∧ (getN b).2 ≤ 10 := by
  unfold getN
  cases h : getG 0 0 b with
  | none => simp
  | some p =>
    obtain ⟨v, n⟩ := p
    obtain ⟨h1, h2, h3, h4⟩ := getG_bound b 0 0 v n (by omega) (by simp) h
    exact ⟨h1, by simpa using h3, h4⟩
theorem or_add {i a y : Nat} (ha : a < 2 ^ i) : a ||| y * 2 ^ i = a + y * 2 ^ i := by
  rw [Nat.or_comm, Nat.mul_comm y, ← Nat.two_pow_add_eq_or_of_lt ha, Nat.add_comm]
theorem or_u {a b : Nat} (ha : a < 18446744073709551616) (hb : b < 18446744073709551616) : ((BitVec.ofInt IntKind.u64.bits (a : Int) ||| BitVec.ofInt IntKind.u64.bits (b : Int)).toNat : Int) = ((a ||| b : Nat) : Int) := by
  show ((BitVec.ofInt 64 (a : Int) ||| BitVec.ofInt 64 (b : Int)).toNat : Int) = _
  rw [BitVec.toNat_or, ofInt_toNat (by omega) (by omega), ofInt_toNat (by omega) (by omega)]
  simp
theorem and127 (x : UInt8) : IntKind.u8.wrap ((BitVec.ofInt IntKind.u8.bits (x.toNat : Int) &&& BitVec.ofInt IntKind.u8.bits 127).toNat : Int) = ((x.toNat % 128 : Nat) : Int) := by
  have : ∀ m : Fin 256, IntKind.u8.wrap ((BitVec.ofInt IntKind.u8.bits (m.val : Int) &&& BitVec.ofInt IntKind.u8.bits 127).toNat : Int) = ((m.val % 128 : Nat) : Int) := by decide +kernel
  exact this ⟨x.toNat, x.toNat_lt⟩
theorem ixl_b {b : List UInt8} {i : Nat} (h : i < b.length) : indexAddrL (.sl 1) (.list .sh 1 (bs b)) (.s (.int .i64 (i : Int))) = some (.rop [u8 b[i]]) := ixl_map (f := u8) h (by omega)
theorem pow_lt (i : Nat) (h : i ≤ 9) : (2:Nat) ^ (7 * i) ≤ 9223372036854775808 := by
  have : (2:Nat) ^ (7 * i) ≤ 2 ^ 63 := Nat.pow_le_pow_right (by omega) (by omega)
  exact this
theorem step_u {i acc : Nat} {x : Nat} (hi : i ≤ 9) (ha : acc < 2 ^ (7 * i)) (hx : x < 128) (h9 : i = 9 → x ≤ 1) :
    (acc + x * 2 ^ (7 * i) < 18446744073709551616) ∧ (i < 9 → acc + x * 2 ^ (7 * i) < 2 ^ (7 * (i + 1))) ∧ IntKind.u64.wrap ((x : Int) * 2 ^ (min (7 * i) IntKind.u64.bits)) = ((x * 2 ^ (7 * i) : Nat) : Int) ∧ IntKind.u64.wrap ((BitVec.ofInt IntKind.u64.bits (acc : Int) ||| BitVec.ofInt IntKind.u64.bits ((x * 2 ^ (7 * i) : Nat) : Int)).toNat : Int) = ((acc + x * 2 ^ (7 * i) : Nat) : Int) := by
  have hp := pow_lt i hi
  have hb : i < 9 → acc + x * 2 ^ (7 * i) < 2 ^ (7 * (i + 1)) := fun _ => by
    rw [show 7 * (i + 1) = 7 * i + 7 by omega, Nat.pow_add]
    have : x * 2 ^ (7 * i) ≤ 127 * 2 ^ (7 * i) := Nat.mul_le_mul_right _ (by omega)
    have h128 : (2:Nat) ^ 7 = 128 := rfl
    rw [h128]; omega
  have h1 : acc + x * 2 ^ (7 * i) < 18446744073709551616 := by
    by_cases h : i = 9
    · have : x * 2 ^ (7 * i) ≤ 1 * 2 ^ (7 * i) := Nat.mul_le_mul_right _ (h9 h)
      omega
    · have h2 := hb (by omega)
      have : (2:Nat) ^ (7 * (i + 1)) ≤ 2 ^ 63 := Nat.pow_le_pow_right (by omega) (by omega)
      have h63 : (2:Nat) ^ 63 = 9223372036854775808 := rfl
      omega
  have hm : min (7 * i) IntKind.u64.bits = 7 * i := by
    show min (7 * i) 64 = _; omega
  refine ⟨h1, hb, ?_, ?_⟩
  · rw [hm]
    have : ((x : Int) * 2 ^ (7 * i)) = ((x * 2 ^ (7 * i) : Nat) : Int) := by rw [Int.natCast_mul, Int.natCast_pow]; rfl
    rw [this]; exact wrap_u64n (by omega)
  · rw [or_u (by omega) (by omega), or_add ha]; exact wrap_u64n h1
def GetS (C : CallW) (f : FuncId) : Prop := ∀ (a : AV) (b : List UInt8) S H (K : AV → St → Prop), BA a b → b.length ≤ 9223372036854775807 → K (.tup [.s (.int .u64 ((getN b).1 : Nat)), .s (.int .i64 ((getN b).2 : Nat)), .s (.int .i64 (if (getN b).2 = 0 then 3 else 0))]) ⟨S, H⟩ → C (.fn f) [a] ⟨S, H⟩ K
def GetRS (C : CallW) (f : FuncId) : Prop := ∀ (a : AV) (b : List UInt8) S H (K : AV → St → Prop), BA a b → b.length ≤ 9223372036854775807 → K (.tup [.s (.int .u64 ((getN b).1 : Nat)), .s (.int .i64 ((getN b).2 : Nat))]) ⟨S, H⟩ → C (.fn f) [a] ⟨S, H⟩ K
set_option maxHeartbeats 8000000 in
theorem bits_Get_spec {C : CallW} (hC : LeC C C) (P : Program) : ∀ (b : List UInt8) S H (K : AV → St → Prop), b.length ≤ 9223372036854775807 → K (.tup [.s (.int .u64 ((getN b).1 : Nat)), .s (.int .i64 ((getN b).2 : Nat)), .s (.int .i64 (if (getN b).2 = 0 then 3 else 0))]) ⟨S, H⟩ → runL C P C_bits_Get [.list .sh 1 (bs b)] ⟨S, H⟩ K := by
  intro b S H K hb hK
  have hbl := bs_length b
  unfold getN at hK
  simp only [C_bits_Get, A_, simprocAttr, ne_eq, U_bits_Get.1, hbl]
  refine loop_rule hC (α := Nat × Nat) (fun a => b.length - a.1) (fun a => [.undef, .undef, .s (.int .u64 a.2), .undef, .undef, .undef, .undef, .list .sh 1 (bs b), .s (.int .i64 b.length), .s (.int .i64 a.1), .undef, .undef, .undef, .undef, .undef, .undef, .undef, .undef, .undef, .undef, .undef, .undef, .undef, .undef, .undef, .undef, .undef, .undef, .undef, .undef, .undef, .undef, .undef, .undef, .undef, .undef, .undef, .undef, .undef, .undef, .undef, .undef, .undef, .undef]) (fun _ => S) (fun _ => H) (fun a => a.1 ≤ b.length ∧ a.1 ≤ 9 ∧ a.2 < 2 ^ (7 * a.1) ∧ getG 0 0 b = getG a.1 a.2 (b.drop a.1)) (0, 0) ⟨by simp, by simp, by simp, rfl⟩ rfl (by simp) rfl (fun a _ => by simp [AV.under, AV.under.go]) ?_
  rintro ⟨i, acc⟩ ⟨hi, h9, ha, hinv⟩ ih
  dsimp only at hi h9 ha hinv ih ⊢
  by_cases h16 : i < b.length
  case neg =>
    have hlt : ¬ ((i : Int) < (b.length : Int)) := by omega
    rw [List.drop_of_length_le (by omega)] at hinv
    rw [hinv] at hK
    simp only [A_, simprocAttr, ne_eq, U_bits_Get.1, hlt]
    exact hK
  have hlt : ((i : Int) < (b.length : Int)) := by omega
  have hix := ixl_b h16
  have hw : IntKind.i64.wrap ((i : Int) + 1) = (i : Int) + 1 := wrap_i64 (by omega) (by omega)
  have h10 : ¬ ((i : Int) = 10) := by omega
  have hp := pow_lt i h9
  have hx8 := (b[i]).toNat_lt
  rw [List.drop_eq_getElem_cons h16, getG] at hinv
  by_cases hc1 : i = 9 ∧ 1 < (b[i]).toNat
  · rw [if_pos hc1] at hinv
    rw [hinv] at hK
    have e9 : ((i : Int) = 9) := by omega
    have e9' := eq_true e9
    have ex : ((1 : Int) < ((b[i]).toNat : Int)) := by omega
    simp only [A_, simprocAttr, ne_eq, U_bits_Get.1, u8, hlt, hix, h10, e9', ex]
    exact hK
  rw [if_neg hc1] at hinv
  have hand := and127 b[i]
  have hcv : IntKind.u64.wrap (((b[i]).toNat % 128 : Nat) : Int) = (((b[i]).toNat % 128 : Nat) : Int) := wrap_u64n (by omega)
  have hm7 : IntKind.i64.wrap (7 * (i : Int)) = ((7 * i : Nat) : Int) := by rw [wrap_i64 (by omega) (by omega)]; omega
  have hn7 : ¬ (((7 * i : Nat) : Int) < 0) := by omega
  have ht7 : (((7 * i : Nat) : Int)).toNat = 7 * i := Int.toNat_natCast _
  obtain ⟨k1, k2, k3, k4⟩ := step_u (x := (b[i]).toNat % 128) h9 ha (by omega) (fun h => by omega)
  have hpick : (if i = 9 then (decide (1 < ((b[i]).toNat : Int))) else false) = false := by
    split
    · simp; omega
    · rfl
  by_cases h9e : i = 9
  · have e9' := eq_true (show ((i : Int) = 9) by omega)
    have ex : ¬ ((1 : Int) < ((b[i]).toNat : Int)) := by omega
    have hl128 : (b[i]).toNat < 128 := by omega
    have hl128' : (((b[i]).toNat : Int) < 128) := by omega
    rw [if_pos hl128] at hinv
    by_cases h0 : b[i] = 0
    · have hz := eq_true (show (((b[i]).toNat : Int) = 0) by rw [h0]; rfl)
      have hp0 : ((0 : Int) < (i : Int)) := by omega
      rw [if_pos ⟨h0, by omega⟩] at hinv
      rw [hinv] at hK
      simp only [A_, simprocAttr, ne_eq, U_bits_Get.1, u8, convL, hlt, hix, h10, e9', ex, hand, hcv, hm7, hn7, ht7, k3, k4, hl128', hz, hp0]
      exact hK
    · have hz : ¬ (((b[i]).toNat : Int) = 0) := fun e => h0 (UInt8.toNat_inj.1 (by simpa using e))
      rw [if_neg (by rintro ⟨h, _⟩; exact h0 h)] at hinv
      rw [hinv] at hK
      simp only [A_, simprocAttr, ne_eq, U_bits_Get.1, u8, convL, hlt, hix, h10, e9', ex, hand, hcv, hm7, hn7, ht7, k3, k4, hl128', hz, hw]
      exact hK
  · have e9 : ¬ ((i : Int) = 9) := by omega
    by_cases hl128 : (b[i]).toNat < 128
    · have hl128' : (((b[i]).toNat : Int) < 128) := by omega
      rw [if_pos hl128] at hinv
      by_cases h0 : b[i] = 0 ∧ 0 < i
      · have hz := eq_true (show (((b[i]).toNat : Int) = 0) by rw [h0.1]; rfl)
        have hp0 : ((0 : Int) < (i : Int)) := by omega
        rw [if_pos h0] at hinv
        rw [hinv] at hK
        simp only [A_, simprocAttr, ne_eq, U_bits_Get.1, u8, convL, hlt, hix, h10, e9, hand, hcv, hm7, hn7, ht7, k3, k4, hl128', hz, hp0]
        exact hK
      · rw [if_neg h0] at hinv
        rw [hinv] at hK
        by_cases hz0 : b[i] = 0
        · have hz := eq_true (show (((b[i]).toNat : Int) = 0) by rw [hz0]; rfl)
          have hp0 : ¬ ((0 : Int) < (i : Int)) := fun h => h0 ⟨hz0, by omega⟩
          simp only [A_, simprocAttr, ne_eq, U_bits_Get.1, u8, convL, hlt, hix, h10, e9, hand, hcv, hm7, hn7, ht7, k3, k4, hl128', hz, hp0, hw]
          exact hK
        · have hz : ¬ (((b[i]).toNat : Int) = 0) := fun e => hz0 (UInt8.toNat_inj.1 (by simpa using e))
          simp only [A_, simprocAttr, ne_eq, U_bits_Get.1, u8, convL, hlt, hix, h10, e9, hand, hcv, hm7, hn7, ht7, k3, k4, hl128', hz, hw]
          exact hK
    · have hl128' : ¬ (((b[i]).toNat : Int) < 128) := by omega
      rw [if_neg hl128, if_neg h9e] at hinv
      simp only [A_, simprocAttr, ne_eq, U_bits_Get.1, u8, convL, hlt, hix, h10, e9, hand, hcv, hm7, hn7, ht7, k3, k4, hl128', hw]
      exact ih (i + 1, _) _ _ _ (by dsimp only; omega) ⟨by dsimp only; omega, by dsimp only; omega, k2 (by omega), hinv⟩ rfl (by simp) rfl
end Go.AM
namespace Go.AM
open Go
set_option maxRecDepth 20000
set_option maxHeartbeats 8000000 in
theorem ref1_Get_spec {C : CallW} (hC : LeC C C) (P : Program) : ∀ (b : List UInt8) S H (K : AV → St → Prop), b.length ≤ 9223372036854775807 → K (.tup [.s (.int .u64 ((getN b).1 : Nat)), .s (.int .i64 ((getN b).2 : Nat))]) ⟨S, H⟩ → runL C P C_hourglassref1_Get [.list .sh 1 (bs b)] ⟨S, H⟩ K := by
  intro b S H K hb hK
  have hbl := bs_length b
  unfold getN at hK
  simp only [C_hourglassref1_Get, A_, simprocAttr, ne_eq, U_hourglassref1_Get.1, hbl]
  refine loop_rule hC (α := Nat × Nat) (fun a => b.length - a.1) (fun a => [.list .sh 1 (bs b), .undef, .undef, .undef, .s (.int .u64 a.2), .s (.int .i64 a.1), .undef, .undef, .undef, .undef, .undef, .undef, .undef, .undef, .undef, .undef, .undef, .undef, .undef, .undef, .undef, .undef, .undef, .undef, .undef, .undef, .undef, .undef, .undef, .undef, .undef, .undef, .undef, .undef, .undef, .undef, .undef, .undef, .undef, .undef, .undef, .undef, .undef, .undef, .undef, .undef, .undef, .undef, .undef, .undef, .undef, .undef, .undef]) (fun _ => S) (fun _ => H) (fun a => a.1 ≤ b.length ∧ (a.1 ≤ 9 ∧ a.2 < 2 ^ (7 * a.1) ∧ getG 0 0 b = getG a.1 a.2 (b.drop a.1) ∨ a.1 = 10 ∧ getG 0 0 b = none)) (0, 0) ⟨by simp, .inl ⟨by simp, by simp, rfl⟩⟩ rfl (by simp) rfl (fun a _ => by simp [AV.under, AV.under.go]) ?_
  rintro ⟨i, acc⟩ ⟨hi, hcs⟩ ih
  dsimp only at hi hcs ih ⊢
  rcases hcs with ⟨h9, ha, hinv⟩ | ⟨h10, hinv⟩
  case inr =>
    have hge : ¬ ((i : Int) < 10) := by omega
    rw [hinv] at hK
    by_cases hlt : ((i : Int) < (b.length : Int))
    · simp only [A_, simprocAttr, ne_eq, U_hourglassref1_Get.1, hlt, hge, hbl]
      exact hK
    · simp only [A_, simprocAttr, ne_eq, U_hourglassref1_Get.1, hlt, hge, hbl]
      exact hK
  have hlt10 : ((i : Int) < 10) := by omega
  by_cases h16 : i < b.length
  case neg =>
    have hlt : ¬ ((i : Int) < (b.length : Int)) := by omega
    rw [List.drop_of_length_le (by omega)] at hinv
    rw [hinv] at hK
    simp only [A_, simprocAttr, ne_eq, U_hourglassref1_Get.1, hlt, hbl]
    exact hK
  have hlt : ((i : Int) < (b.length : Int)) := by omega
  have hix := ixl_b h16
  have hw : IntKind.i64.wrap ((i : Int) + 1) = (i : Int) + 1 := wrap_i64 (by omega) (by omega)
  have hp := pow_lt i h9
  have hx8 := (b[i]).toNat_lt
  rw [List.drop_eq_getElem_cons h16, getG] at hinv
  have hand := and127 b[i]
  have hcv : IntKind.u64.wrap (((b[i]).toNat % 128 : Nat) : Int) = (((b[i]).toNat % 128 : Nat) : Int) := wrap_u64n (by omega)
  have hm7 : IntKind.i64.wrap (7 * (i : Int)) = ((7 * i : Nat) : Int) := by rw [wrap_i64 (by omega) (by omega)]; omega
  have hm8 : IntKind.u64.wrap ((7 * i : Nat) : Int) = ((7 * i : Nat) : Int) := wrap_u64n (by omega)
  have hn7 : ¬ (((7 * i : Nat) : Int) < 0) := by omega
  have ht7 : (((7 * i : Nat) : Int)).toNat = 7 * i := Int.toNat_natCast _
  by_cases hg1 : i = 9 ∧ 1 < (b[i]).toNat % 128
  · have e9' := eq_true (show ((i : Int) = 9) by omega)
    have ex : ((1 : Int) < (((b[i]).toNat % 128 : Nat) : Int)) := by omega
    rw [if_pos ⟨hg1.1, by omega⟩] at hinv
    rw [hinv] at hK
    simp only [A_, simprocAttr, ne_eq, U_hourglassref1_Get.1, u8, convL, hbl, hlt, hlt10, hix, hand, hcv, e9', ex]
    exact hK
  obtain ⟨k1, k2, k3, k4⟩ := step_u (x := (b[i]).toNat % 128) h9 ha (by omega) (fun h => by omega)
  by_cases h9e : i = 9
  · have e9' := eq_true (show ((i : Int) = 9) by omega)
    have ex : ¬ ((1 : Int) < (((b[i]).toNat % 128 : Nat) : Int)) := by omega
    by_cases hl128 : (b[i]).toNat < 128
    · have hl128' : (((b[i]).toNat : Int) < 128) := by omega
      rw [if_neg (by omega), if_pos hl128] at hinv
      by_cases h0 : b[i] = 0
      · have hz := eq_true (show (((b[i]).toNat : Int) = 0) by rw [h0]; rfl)
        have hp0 : ((0 : Int) < (i : Int)) := by omega
        rw [if_pos ⟨h0, by omega⟩] at hinv
        rw [hinv] at hK
        simp only [A_, simprocAttr, ne_eq, U_hourglassref1_Get.1, u8, convL, hbl, hlt, hlt10, hix, e9', ex, hand, hcv, hm7, hm8, hn7, ht7, k3, k4, hl128', hz, hp0]
        exact hK
      · have hz : ¬ (((b[i]).toNat : Int) = 0) := fun e => h0 (UInt8.toNat_inj.1 (by simpa using e))
        rw [if_neg (by rintro ⟨h, _⟩; exact h0 h)] at hinv
        rw [hinv] at hK
        simp only [A_, simprocAttr, ne_eq, U_hourglassref1_Get.1, u8, convL, hbl, hlt, hlt10, hix, e9', ex, hand, hcv, hm7, hm8, hn7, ht7, k3, k4, hl128', hz, hw]
        exact hK
    · have hl128' : ¬ (((b[i]).toNat : Int) < 128) := by omega
      have hgn : getG 0 0 b = none := by
        rw [hinv]
        by_cases hq : i = 9 ∧ 1 < (b[i]).toNat
        · rw [if_pos hq]
        · rw [if_neg hq, if_neg hl128, if_pos h9e]
      simp only [A_, simprocAttr, ne_eq, U_hourglassref1_Get.1, u8, convL, hbl, hlt, hlt10, hix, e9', ex, hand, hcv, hm7, hm8, hn7, ht7, k3, k4, hl128', hw]
      exact ih (i + 1, _) _ _ _ (by dsimp only; omega) ⟨by dsimp only; omega, .inr ⟨by dsimp only; omega, hgn⟩⟩ rfl (by simp) rfl
  · have e9 : ¬ ((i : Int) = 9) := by omega
    rw [if_neg (fun h => h9e h.1)] at hinv
    by_cases hl128 : (b[i]).toNat < 128
    · have hl128' : (((b[i]).toNat : Int) < 128) := by omega
      rw [if_pos hl128] at hinv
      by_cases h0 : b[i] = 0 ∧ 0 < i
      · have hz := eq_true (show (((b[i]).toNat : Int) = 0) by rw [h0.1]; rfl)
        have hp0 : ((0 : Int) < (i : Int)) := by omega
        rw [if_pos h0] at hinv
        rw [hinv] at hK
        simp only [A_, simprocAttr, ne_eq, U_hourglassref1_Get.1, u8, convL, hbl, hlt, hlt10, hix, e9, hand, hcv, hm7, hm8, hn7, ht7, k3, k4, hl128', hz, hp0]
        exact hK
      · rw [if_neg h0] at hinv
        rw [hinv] at hK
        by_cases hz0 : b[i] = 0
        · have hz := eq_true (show (((b[i]).toNat : Int) = 0) by rw [hz0]; rfl)
          have hp0 : ¬ ((0 : Int) < (i : Int)) := fun h => h0 ⟨hz0, by omega⟩
          simp only [A_, simprocAttr, ne_eq, U_hourglassref1_Get.1, u8, convL, hbl, hlt, hlt10, hix, e9, hand, hcv, hm7, hm8, hn7, ht7, k3, k4, hl128', hz, hp0, hw]
          exact hK
        · have hz : ¬ (((b[i]).toNat : Int) = 0) := fun e => hz0 (UInt8.toNat_inj.1 (by simpa using e))
          simp only [A_, simprocAttr, ne_eq, U_hourglassref1_Get.1, u8, convL, hbl, hlt, hlt10, hix, e9, hand, hcv, hm7, hm8, hn7, ht7, k3, k4, hl128', hz, hw]
          exact hK
    · have hl128' : ¬ (((b[i]).toNat : Int) < 128) := by omega
      rw [if_neg hl128, if_neg h9e] at hinv
      simp only [A_, simprocAttr, ne_eq, U_hourglassref1_Get.1, u8, convL, hbl, hlt, hlt10, hix, e9, hand, hcv, hm7, hm8, hn7, ht7, k3, k4, hl128', hw]
      exact ih (i + 1, _) _ _ _ (by dsimp only; omega) ⟨by dsimp only; omega, .inl ⟨by dsimp only; omega, k2 (by omega), hinv⟩⟩ rfl (by simp) rfl
end Go.AM
namespace Go.AM
open Go
set_option maxRecDepth 20000
def packN (s : Stp) : Nat := if goodS s = true then s.t.toNat * 256 + s.n.toNat else 0
theorem packN_lt (s : Stp) : packN s < 9223372036854775808 := by
  unfold packN
  split
  · rename_i h
    unfold goodS at h
    simp only [Bool.and_eq_true, decide_eq_true_eq] at h
    have := s.n.toNat_lt
    omega
  · omega
theorem good_cases {s : Stp} (h : goodS s = true) : 0 ≤ s.t ∧ s.t ≤ 36028797018963967 := by
  unfold goodS at h; simpa using h
theorem stamp_Good_spec {C : CallW} (P : Program) (s : Stp) : ∀ S H (K : AV → St → Prop), K (.bool (goodS s)) ⟨S, H⟩ → runL C P C_stamp_Good [.agg (stc s)] ⟨S, H⟩ K := by
  intro S H K hK
  unfold goodS at hK
  by_cases h1 : 0 ≤ s.t
  · by_cases h2 : s.t ≤ 36028797018963967
    · simp only [h1, h2, decide_true, Bool.and_self] at hK
      simp only [C_stamp_Good, A_, simprocAttr, ne_eq, U_stamp_Good.1, h1, h2]
      exact hK
    · simp only [h1, h2, decide_true, decide_false, Bool.and_false] at hK
      simp only [C_stamp_Good, A_, simprocAttr, ne_eq, U_stamp_Good.1, h1, h2]
      exact hK
  · simp only [h1, decide_false, Bool.false_and] at hK
    simp only [C_stamp_Good, A_, simprocAttr, ne_eq, U_stamp_Good.1, h1]
    exact hK
theorem stamp_Pack_spec {C : CallW} (P : Program) {c : Nat → FuncId} (h0 : ∀ s : Stp, FnS C (c 0) [.agg (stc s)] (.bool (goodS s))) (s : Stp) : ∀ S H (K : AV → St → Prop), K (.tup [.s (.int .u64 (packN s : Nat)), .s (.int .i64 (if goodS s = true then 0 else 1))]) ⟨S, H⟩ → runL C P (C_stamp_Pack c) [.agg (stc s)] ⟨S, H⟩ K := by
  intro S H K hK
  simp only [C_stamp_Pack, A_, simprocAttr, ne_eq, (U_stamp_Pack _).1]
  refine h0 s _ _ _ ?_
  have hn8 := s.n.toNat_lt
  have n8 : ¬ ((8 : Int) < 0) := by omega
  have t8 : ((8 : Int).toNat) = 8 := rfl
  have m8 : (2 : Int) ^ min 8 IntKind.u64.bits = 256 := rfl
  cases hg : goodS s with
  | false =>
    simp only [packN, hg, if_false, Bool.false_eq_true] at hK
    simp only [A_, simprocAttr, ne_eq, (U_stamp_Pack _).1]
    exact hK
  | true =>
    obtain ⟨g1, g2⟩ := good_cases hg
    have w1 : IntKind.u64.wrap s.t = s.t := by rw [wrap_u64]; omega
    have w2 : IntKind.u64.wrap (s.t * 256) = ((s.t.toNat * 256 : Nat) : Int) := by rw [wrap_u64]; omega
    have w3 : IntKind.u64.wrap (s.n.toNat : Int) = (s.n.toNat : Int) := by rw [wrap_u64]; omega
    have w4 := or_u (a := s.t.toNat * 256) (b := s.n.toNat) (by omega) (by omega)
    have w5 : ((s.t.toNat * 256 : Nat) ||| s.n.toNat) = packN s := by
      rw [Nat.or_comm, or_add (i := 8) (by omega)]
      unfold packN; rw [if_pos hg]; omega
    have w6 : IntKind.u64.wrap ((packN s : Nat) : Int) = ((packN s : Nat) : Int) := wrap_u64n (by have := packN_lt s; omega)
    rw [w5] at w4
    simp only [hg, if_true] at hK
    simp only [A_, simprocAttr, ne_eq, (U_stamp_Pack _).1, u8, stc, convL, n8, t8, m8, w1, w2, w3, w4, w6]
    exact hK
theorem ref6_Pack_spec {C : CallW} (P : Program) {c : Nat → FuncId} (h0 : ∀ s : Stp, FnS C (c 0) [.agg (stc s)] (.bool (goodS s))) (s : Stp) : ∀ S H (K : AV → St → Prop), K (.tup [.s (.int .u64 (packN s : Nat)), .bool (goodS s)]) ⟨S, H⟩ → runL C P (C_hourglassref6_Pack c) [.agg (stc s)] ⟨S, H⟩ K := by
  intro S H K hK
  simp only [C_hourglassref6_Pack, A_, simprocAttr, ne_eq, (U_hourglassref6_Pack _).1]
  refine h0 s _ _ _ ?_
  have hn8 := s.n.toNat_lt
  cases hg : goodS s with
  | false =>
    simp only [packN, hg, if_false, Bool.false_eq_true] at hK
    simp only [A_, simprocAttr, ne_eq, (U_hourglassref6_Pack _).1]
    exact hK
  | true =>
    obtain ⟨g1, g2⟩ := good_cases hg
    have w1 : IntKind.u64.wrap s.t = s.t := by rw [wrap_u64]; omega
    have w2 : IntKind.u64.wrap (s.t * 256) = s.t * 256 := by rw [wrap_u64]; omega
    have w3 : IntKind.u64.wrap (s.n.toNat : Int) = (s.n.toNat : Int) := by rw [wrap_u64]; omega
    have w4 : IntKind.u64.wrap (s.t * 256 + (s.n.toNat : Int)) = ((packN s : Nat) : Int) := by rw [wrap_u64]; unfold packN; rw [if_pos hg]; omega
    simp only [hg] at hK
    simp only [A_, simprocAttr, ne_eq, (U_hourglassref6_Pack _).1, u8, stc, convL, w1, w2, w3, w4]
    exact hK
def unpackS (n : Nat) : Stp × Bool := if n < 9223372036854775808 then (⟨((n / 256 : Nat) : Int), UInt8.ofNat (n % 256)⟩, true) else (⟨0, 0⟩, false)
theorem unpack_pack {s : Stp} (h : goodS s = true) : unpackS (packN s) = (s, true) := by
  have h1 := packN_lt s
  obtain ⟨g1, g2⟩ := good_cases h
  have hn8 := s.n.toNat_lt
  have e : packN s = s.t.toNat * 256 + s.n.toNat := by unfold packN; rw [if_pos h]
  unfold unpackS
  rw [if_pos h1, e]
  have e1 : (((s.t.toNat * 256 + s.n.toNat) / 256 : Nat) : Int) = s.t := by omega
  have e2 : (s.t.toNat * 256 + s.n.toNat) % 256 = s.n.toNat := by omega
  rw [e1, e2]
  simp
theorem and_sign {n : Nat} (h : n < 18446744073709551616) : (IntKind.u64.wrap ((BitVec.ofInt IntKind.u64.bits (n : Int) &&& BitVec.ofInt IntKind.u64.bits 9223372036854775808).toNat : Int) = 0) = (n < 9223372036854775808) := by
  have e : (BitVec.ofInt IntKind.u64.bits (n : Int) &&& BitVec.ofInt IntKind.u64.bits 9223372036854775808).toNat = n &&& 2 ^ 63 := by
    show (BitVec.ofInt 64 (n : Int) &&& BitVec.ofInt 64 9223372036854775808).toNat = _
    rw [BitVec.toNat_and, ofInt_toNat (by omega) (by omega), ofInt_toNat (by omega) (by omega)]
    rfl
  rw [e]
  have hle : n &&& 2 ^ 63 ≤ n := Nat.and_le_left
  rw [wrap_u64n (by omega)]
  apply propext
  constructor
  · intro h0
    have h1 : n &&& 2 ^ 63 = 0 := by omega
    by_cases h2 : n < 9223372036854775808
    · exact h2
    · have ht : n.testBit 63 = true := Nat.testBit_of_two_pow_le_and_two_pow_add_one_gt (by omega) (by omega)
      have := congrArg (fun x => Nat.testBit x 63) h1
      simp [Nat.testBit_and, ht] at this
      exact absurd this (by decide +kernel)
  · intro h2
    have : n &&& 2 ^ 63 = 0 := by
      apply Nat.eq_of_testBit_eq
      intro j
      rw [Nat.testBit_and, Nat.zero_testBit, Nat.testBit_two_pow]
      by_cases hj : 63 = j
      · subst hj
        rw [Nat.testBit_lt_two_pow (by omega)]; rfl
      · simp [hj]
    omega
theorem stamp_Unpack_spec {C : CallW} (P : Program) (n : Nat) (h : n < 18446744073709551616) : ∀ S H (K : AV → St → Prop), K (.tup [.agg (stc (unpackS n).1), .s (.int .i64 (if (unpackS n).2 = true then 0 else 1))]) ⟨S, H⟩ → runL C P C_stamp_Unpack [.s (.int .u64 n)] ⟨S, H⟩ K := by
  intro S H K hK
  have hs := and_sign h
  unfold unpackS at hK
  by_cases h2 : n < 9223372036854775808
  · rw [if_pos h2] at hK
    have hs' := hs.trans (eq_true h2)
    have n8 : ¬ ((8 : Int) < 0) := by omega
    have t8 : ((8 : Int).toNat) = 8 := rfl
    have m8 : (2 : Int) ^ min 8 IntKind.u64.bits = 256 := rfl
    have d8 : (n : Int).fdiv 256 = ((n / 256 : Nat) : Int) := fdiv_n n 256
    have w1 : IntKind.i64.wrap ((n / 256 : Nat) : Int) = ((n / 256 : Nat) : Int) := wrap_i64 (by omega) (by omega)
    have w2 := wrap_u8n n
    have hu : AV.s (.int .u8 ((n % 256 : Nat) : Int)) = u8 (UInt8.ofNat (n % 256)) := u8_of (by omega)
    simp only [stc, ← hu] at hK
    simp only [C_stamp_Unpack, A_, simprocAttr, ne_eq, U_stamp_Unpack.1, convL, hs', n8, t8, m8, d8, w1, w2]
    exact hK
  · rw [if_neg h2] at hK
    have hs' := hs.trans (eq_false h2)
    simp only [C_stamp_Unpack, A_, simprocAttr, ne_eq, U_stamp_Unpack.1, convL, hs']
    exact hK
theorem ref6_Unpack_spec {C : CallW} (P : Program) (n : Nat) (h : n < 18446744073709551616) : ∀ S H (K : AV → St → Prop), K (.tup [.agg (stc (unpackS n).1), .bool (unpackS n).2]) ⟨S, H⟩ → runL C P C_hourglassref6_Unpack [.s (.int .u64 n)] ⟨S, H⟩ K := by
  intro S H K hK
  unfold unpackS at hK
  by_cases h2 : n < 9223372036854775808
  · rw [if_pos h2] at hK
    have hs' : ¬ ((9223372036854775808 : Int) ≤ (n : Int)) := by omega
    have z : ¬ ((256 : Int) = 0) := by omega
    have d8 : (n : Int).tdiv 256 = ((n / 256 : Nat) : Int) := rfl
    have d9 : (n : Int).tmod 256 = ((n % 256 : Nat) : Int) := rfl
    have w0 : IntKind.u64.wrap ((n / 256 : Nat) : Int) = ((n / 256 : Nat) : Int) := wrap_u64n (by omega)
    have w1 : IntKind.i64.wrap ((n / 256 : Nat) : Int) = ((n / 256 : Nat) : Int) := wrap_i64 (by omega) (by omega)
    have w2 : IntKind.u8.wrap ((n % 256 : Nat) : Int) = ((n % 256 : Nat) : Int) := by rw [wrap_u8n]; omega
    have hu : AV.s (.int .u8 ((n % 256 : Nat) : Int)) = u8 (UInt8.ofNat (n % 256)) := u8_of (by omega)
    simp only [stc, ← hu] at hK
    simp only [C_hourglassref6_Unpack, A_, simprocAttr, ne_eq, U_hourglassref6_Unpack.1, convL, hs', z, d8, d9, w0, w1, w2]
    exact hK
  · rw [if_neg h2] at hK
    have hs' : ((9223372036854775808 : Int) ≤ (n : Int)) := by omega
    simp only [C_hourglassref6_Unpack, A_, simprocAttr, ne_eq, U_hourglassref6_Unpack.1, convL, hs']
    exact hK
def PutStampS (C : CallW) (f : FuncId) : Prop := ∀ (a : AV) (b : List UInt8) (s : Stp) S H (K : AV → St → Prop), BA a b → b.length ≤ 1000000000 → K (.list .uniq 1 (bs (b ++ putN (packN s)))) ⟨S, H⟩ → C (.fn f) [a, .agg (stc s)] ⟨S, H⟩ K
theorem ref14_Stp_spec {C : CallW} (P : Program) {c : Nat → FuncId} (h0 : ∀ s : Stp, FnS C (c 0) [.agg (stc s)] (.tup [.s (.int .u64 (packN s : Nat)), .bool (goodS s)])) (h1 : PutS C (c 1)) : ∀ (b : List UInt8) (s : Stp) S H (K : AV → St → Prop), b.length ≤ 1000000000 → K (.list .uniq 1 (bs (b ++ putN (packN s)))) ⟨S, H⟩ → runL C P (C_hourglassref14_Stp c) [.list .sh 1 (bs b), .agg (stc s)] ⟨S, H⟩ K := by
  intro b s S H K hb hK
  simp only [C_hourglassref14_Stp, A_, simprocAttr, ne_eq, (U_hourglassref14_Stp _).1]
  refine h0 s _ _ _ ?_
  simp only [A_, simprocAttr, ne_eq, (U_hourglassref14_Stp _).1]
  refine h1 _ b _ _ _ _ .l hb (by have := packN_lt s; omega) ?_
  simp only [A_, simprocAttr, ne_eq, (U_hourglassref14_Stp _).1]
  exact hK
end Go.AM
namespace Go.AM
open Go
set_option maxRecDepth 20000
def textOf (k : Key) : List UInt8 := k.b.takeWhile (· != 0)
theorem take_stop {l : List UInt8} {i : Nat} (h : i ≤ l.length) (hall : ∀ j, (hj : j < i) → l[j]'(by omega) ≠ 0) (hs : ∀ hi : i < l.length, l[i] = 0) : l.take i = l.takeWhile (· != 0) := by
  induction l generalizing i with
  | nil => simp
  | cons x l ih =>
    cases i with
    | zero =>
      have := hs (by simp)
      simp at this
      subst this; simp
    | succ i =>
      have h0 := hall 0 (by omega)
      simp at h0
      rw [List.take_succ_cons, List.takeWhile_cons]
      have hx : (x != 0) = true := by simpa using h0
      rw [hx]
      simp only [if_true]
      rw [ih (by simpa using h) (fun j hj => by have := hall (j + 1) (by omega); simpa using this) fun hi => by have := hs (by simpa using hi); simpa using this]
set_option maxHeartbeats 1000000 in
theorem key_text_spec {C : CallW} (hC : LeC C C) (P : Program) (k : Key) (S : List (List AV)) (H : List HObj) (K : AV → St → Prop) (hK : K (.str (textOf k)) ⟨S, H⟩) : runL C P C_key_text [.agg k.c] ⟨S, H⟩ K := by
  simp only [C_key_text, RUN_, u_C_key_text_k1.1, u_C_key_text_k2.1, u_C_key_text_k3.1, u_C_key_text_k4.1, FR_, simprocAttr, if_true, if_false, ite_true, ite_false, ne_eq, eq_self, binL, scBin, blBin, intBin, intShift, unL, load1L, storeL, readA, readCells, writeCells, splice, mayHold, boxOf_stk, boxOf_heap, setBox_stk, setBox_heap, newBox_stk, newBox_heap, app_get0, app_get, app_set0, app_set, app_take, app_one, List.length_append, shift, partL, lenL, capL, Nat.add_assoc, AV.under, AV.under.go, finL, under_bs]
  refine loop_rule hC (α := Nat) (fun i => 16 - i) (fun i => [.undef, .ptr (.stk S.length) 0, .undef, .s (.int .i64 i), .undef, .undef, .undef, .undef, .undef, .undef, .undef, .undef, .undef, .undef, .undef, .undef, .undef]) (fun _ => S ++ [k.c]) (fun _ => H) (fun i => i ≤ 16 ∧ ∀ j, (hj : j < i) → (hj' : j < k.b.length) → k.b[j] ≠ 0) 0 ⟨by omega, fun j hj => by omega⟩ rfl (app_take_add _ _ _) rfl (fun i hi => by simp [AV.under, AV.under.go]) ?_
  rintro i ⟨hi, hall⟩ ih
  have hkl := k.h
  by_cases h16 : i < 16
  · have hb := bs_get (l := k.b) (i := i) (by omega)
    have hw : IntKind.i64.wrap ((i : Int) + 1) = ((i + 1 : Nat) : Int) := by rw [wrap_i64 (by omega) (by omega)]; rfl
    have h1 : ((i : Int) < 16) := by omega
    have h2 : (0 : Int) ≤ (i : Int) := by omega
    by_cases hz : k.b[i]'(by omega) = 0
    · have hc := conv_row (σ := ⟨S ++ [k.c], H⟩) (r := .stk S.length) (off := 0) (len := i) (cap := 16) (l := k.b) (by rw [boxOf_stk, app_get0]; rfl) (by omega)
      rw [List.drop_zero, take_stop (by omega) (fun j hj => hall j hj (by omega)) (fun _ => hz)] at hc
      simp only [RUN_, u_C_key_text_k1.1, u_C_key_text_k2.1, u_C_key_text_k3.1, u_C_key_text_k4.1, FR_, simprocAttr, if_true, if_false, ite_true, ite_false, ne_eq, eq_self, binL, scBin, blBin, intBin, intShift, unL, load1L, storeL, readA, readCells, writeCells, splice, mayHold, boxOf_stk, boxOf_heap, setBox_stk, setBox_heap, newBox_stk, newBox_heap, app_get0, app_get, app_set0, app_set, app_take, app_one, List.length_append, shift, partL, lenL, capL, Nat.add_assoc, AV.under, AV.under.go, finL, indexAddrL, h1, h2, hb, Int.toNat_natCast, Nat.mul_one, u8, hz, sliceL, bound, Option.map_some, Nat.zero_le, hi, UInt8.toNat_zero, hc, Nat.sub_zero]
      exact hK
    · have hz' : ¬ (((k.b[i]'(by omega)).toNat : Int) = 0) := fun e => hz (by
        have : (k.b[i]'(by omega)).toNat = 0 := by omega
        exact UInt8.toNat_inj.1 this)
      simp only [RUN_, u_C_key_text_k1.1, u_C_key_text_k2.1, u_C_key_text_k3.1, u_C_key_text_k4.1, FR_, simprocAttr, if_true, if_false, ite_true, ite_false, ne_eq, eq_self, binL, scBin, blBin, intBin, intShift, unL, load1L, storeL, readA, readCells, writeCells, splice, mayHold, boxOf_stk, boxOf_heap, setBox_stk, setBox_heap, newBox_stk, newBox_heap, app_get0, app_get, app_set0, app_set, app_take, app_one, List.length_append, shift, partL, lenL, capL, Nat.add_assoc, AV.under, AV.under.go, finL, indexAddrL, h1, h2, hb, Int.toNat_natCast, Nat.mul_one, u8, hz', hw]
      exact ih (i + 1) _ _ _ (by omega) ⟨by omega, fun j hj hj' => by
        rcases Nat.lt_or_ge j i with h | h
        · exact hall j h hj'
        · have : j = i := by omega
          subst this; exact hz⟩ rfl (app_take_add _ _ _) rfl
  · have h1 : ¬ ((i : Int) < 16) := by omega
    have h16' : i = 16 := by omega
    have h2 : (0 : Int) ≤ (i : Int) := by omega
    have hc := conv_row (σ := ⟨S ++ [k.c], H⟩) (r := .stk S.length) (off := 0) (len := i) (cap := 16) (l := k.b) (by rw [boxOf_stk, app_get0]; rfl) (by omega)
    rw [List.drop_zero, take_stop (by omega) (fun j hj => hall j hj (by omega)) (fun h => by omega)] at hc
    simp only [RUN_, u_C_key_text_k1.1, u_C_key_text_k2.1, u_C_key_text_k3.1, u_C_key_text_k4.1, FR_, simprocAttr, if_true, if_false, ite_true, ite_false, ne_eq, eq_self, binL, scBin, blBin, intBin, intShift, unL, load1L, storeL, readA, readCells, writeCells, splice, mayHold, boxOf_stk, boxOf_heap, setBox_stk, setBox_heap, newBox_stk, newBox_heap, app_get0, app_get, app_set0, app_set, app_take, app_one, List.length_append, shift, partL, lenL, capL, Nat.add_assoc, AV.under, AV.under.go, finL, h1, h2, sliceL, bound, Option.map_some, Nat.zero_le, hi, hc, Nat.sub_zero, Int.toNat_natCast]
    exact hK
end Go.AM
namespace Go.AM
open Go
set_option maxRecDepth 20000
def CmpB (C : CallW) (f : FuncId) : Prop := ∀ (a b : List UInt8) (S : List (List AV)) (H : List HObj) (r1 r2 : Nat) (K : AV → St → Prop), S[r1]? = some (bs a) → S[r2]? = some (bs b) → a.length = 16 → b.length = 16 →
  K (.i (Lib.compareBytes a b)) ⟨S, H⟩ → C (.fn f) [.row (.stk r1) 0 16 16, .row (.stk r2) 0 16 16] ⟨S, H⟩ K
def KCmp (C : CallW) (f : FuncId) : Prop := ∀ (a b : Key) S H K, K (.i (Lib.compareBytes a.b b.b)) ⟨S, H⟩ → C (.fn f) [.agg (bs a.b), .agg (bs b.b)] ⟨S, H⟩ K
set_option maxHeartbeats 1000000 in
theorem bytes_Compare_spec {C : CallW} (hC : LeC C C) (P : Program) {f : FuncId} (hf : CmpB C f) : ∀ (a b : List UInt8) (S : List (List AV)) (H : List HObj) (r1 r2 : Nat) (K : AV → St → Prop), S[r1]? = some (bs a) → S[r2]? = some (bs b) → a.length = 16 → b.length = 16 →
  K (.i (Lib.compareBytes a b)) ⟨S, H⟩ → runL C P (C_bytes_Compare f) [.row (.stk r1) 0 16 16, .row (.stk r2) 0 16 16] ⟨S, H⟩ K := by
  intro a b S H r1 r2 K h1 h2 ha hb hK
  simp only [C_bytes_Compare, RUN_, (u_C_bytes_Compare_k1 _).1, FR_, simprocAttr, if_true, if_false, ite_true, ite_false, ne_eq, eq_self, OPK_, KEY_]
  refine hf a b S H r1 r2 _ h1 h2 ha hb ?_
  simp only [RUN_, (u_C_bytes_Compare_k1 _).1, FR_, simprocAttr, if_true, if_false, ite_true, ite_false, ne_eq, eq_self, OPK_, KEY_, List.take_length]
  exact hK
set_option maxHeartbeats 1000000 in
theorem key_Cmp_spec {C : CallW} (hC : LeC C C) (P : Program) {f : FuncId} (hf : CmpB C f) : ∀ (a b : Key) S H K, K (.i (Lib.compareBytes a.b b.b)) ⟨S, H⟩ → runL C P (C_key_Cmp f) [.agg (bs a.b), .agg (bs b.b)] ⟨S, H⟩ K := by
  intro a b S H K hK
  simp only [C_key_Cmp, RUN_, (u_C_key_Cmp_k1 _).1, FR_, simprocAttr, if_true, if_false, ite_true, ite_false, ne_eq, eq_self, OPK_, KEY_]
  refine hf a.b b.b _ _ _ _ _ ?_ ?_ a.h b.h ?_
  · simp
  · simp
  simp only [RUN_, (u_C_key_Cmp_k1 _).1, FR_, simprocAttr, if_true, if_false, ite_true, ite_false, ne_eq, eq_self, OPK_, KEY_]
  exact hK
def IdxS (C : CallW) (f : FuncId) : Prop := ∀ (l : List UInt8) (S : List (List AV)) (H : List HObj) (K : AV → St → Prop), K (.i (Lib.indexByte l 0)) ⟨S, H⟩ → C (.fn f) [.s (.str l), .s (.int .u8 0)] ⟨S, H⟩ K
theorem strings_IndexByte_spec {C : CallW} (hC : LeC C C) (P : Program) {f : FuncId} (hf : IdxS C f) : ∀ (l : List UInt8) (S : List (List AV)) (H : List HObj) (K : AV → St → Prop), K (.i (Lib.indexByte l 0)) ⟨S, H⟩ → runL C P (C_strings_IndexByte f) [.s (.str l), .s (.int .u8 0)] ⟨S, H⟩ K := by
  intro l S H K hK
  simp only [C_strings_IndexByte, RUN_, (u_C_strings_IndexByte_k1 _).1, FR_, simprocAttr, if_true, if_false, ite_true, ite_false, ne_eq, eq_self, OPK_, KEY_]
  refine hf _ _ _ _ ?_
  simp only [RUN_, (u_C_strings_IndexByte_k1 _).1, FR_, simprocAttr, if_true, if_false, ite_true, ite_false, ne_eq, eq_self, OPK_, KEY_, List.take_length]
  exact hK
theorem stringslite_IndexByte_spec {C : CallW} (hC : LeC C C) (P : Program) {f : FuncId} (hf : IdxS C f) : ∀ (l : List UInt8) (S : List (List AV)) (H : List HObj) (K : AV → St → Prop), K (.i (Lib.indexByte l 0)) ⟨S, H⟩ → runL C P (C_internal_stringslite_IndexByte f) [.s (.str l), .s (.int .u8 0)] ⟨S, H⟩ K := by
  intro l S H K hK
  simp only [C_internal_stringslite_IndexByte, RUN_, (u_C_internal_stringslite_IndexByte_k1 _).1, FR_, simprocAttr, if_true, if_false, ite_true, ite_false, ne_eq, eq_self, OPK_, KEY_]
  refine hf _ _ _ _ ?_
  simp only [RUN_, (u_C_internal_stringslite_IndexByte_k1 _).1, FR_, simprocAttr, if_true, if_false, ite_true, ite_false, ne_eq, eq_self, OPK_, KEY_, List.take_length]
  exact hK
def padB (s : List UInt8) : List UInt8 := s.take 16 ++ List.replicate (16 - s.length) 0
def padK (s : List UInt8) : Key := ⟨padB s, by simp [padB]; omega⟩
def badT (s : List UInt8) : Prop := s = [] ∨ 16 < s.length ∨ (0 : UInt8) ∈ s
instance (s : List UInt8) : Decidable (badT s) := inferInstanceAs (Decidable (_ ∨ _))
def keyOf (s : List UInt8) : Key × Int := if badT s then (key0, 1) else (padK s, 0)
theorem idx_neg {l : List UInt8} : Lib.indexByte l 0 ≥ 0 ↔ (0 : UInt8) ∈ l := by
  induction l with
  | nil => simp [Lib.indexByte]
  | cons x l ih =>
    simp only [Lib.indexByte, beq_iff_eq, List.mem_cons]
    by_cases h : x = 0
    · simp [h]
    · rw [if_neg h]
      have hge := Lib.indexByte_ge l 0
      by_cases h1 : Lib.indexByte l 0 = -1
      · rw [if_pos h1]
        have : ¬ ((0 : UInt8) ∈ l) := fun hm => by have := ih.2 hm; omega
        simp [this]; exact fun e => h e.symm
      · rw [if_neg h1]
        have : (0 : UInt8) ∈ l := ih.1 (by omega)
        simp [this]; omega
theorem splice_zero {cs vs : List AV} (h : vs.length ≤ cs.length) : splice cs 0 vs = vs ++ cs.drop vs.length := by
  unfold splice
  split
  · cases cs with
    | nil => simp at h
    | cons c cs => simp
  · simp
theorem flat_bs (l : List UInt8) : (bs l).flatMap AV.cells = bs l := by
  induction l with
  | nil => rfl
  | cons x l ih => show [u8 x] ++ (bs l).flatMap AV.cells = _; rw [ih]; rfl
theorem copy_str {e : ET} {S l : List (List AV)} {H : List HObj} {j : Nat} {s : List UInt8} {k : Key} (he : e.c = 1) (hj : j < l.length) (hk : l.getD j [] = bs k.b) (hs : s.length ≤ 16) :
    copyL e true (.row (.stk (S.length + j)) 0 16 16) (.s (.str s)) ⟨S ++ l, H⟩ = some (.i s.length, ⟨S ++ l.set j (bs (s ++ k.b.drop s.length)), H⟩) := by
  have e1 : l[j]? = some (bs k.b) := by rw [← hk]; simp [List.getD, hj]
  have hi : elemsL e (.s (.str s)) ⟨S ++ l, H⟩ = some (bs s) := by simp [elemsL, he, bs, u8]
  unfold copyL
  simp only [srcL, AV.isStr, if_true, hi]
  rw [List.take_of_length_le (by rw [bs_length]; exact hs), flat_bs, bs_length]
  simp only [writeCells, boxOf_stk, app_get, e1, Option.bind_some, mayHold, under_bs, bs_length, k.h, Nat.zero_add, hs, decide_true, Bool.and_self, if_true, Option.map_some, setBox_stk, app_set]
  rw [splice_zero (by rw [bs_length, bs_length, k.h]; exact hs), bs_length, bs_drop]
  simp only [bs, List.map_append]
theorem pad_drop {s : List UInt8} (hs : s.length ≤ 16) : s ++ key0.b.drop s.length = padB s := by
  unfold padB key0
  rw [List.take_of_length_le hs, List.drop_replicate]
def OfK (C : CallW) (f : FuncId) : Prop := ∀ (s : List UInt8) (S : List (List AV)) (H : List HObj) (K : AV → St → Prop), K (.tup [.agg (bs (keyOf s).1.b), .i (keyOf s).2]) ⟨S, H⟩ → C (.fn f) [.s (.str s)] ⟨S, H⟩ K
set_option maxHeartbeats 1000000 in
theorem key_Of_spec {C : CallW} (hC : LeC C C) (P : Program) {f : FuncId} (hf : IdxS C f) : ∀ (s : List UInt8) (S : List (List AV)) (H : List HObj) (K : AV → St → Prop), K (.tup [.agg (bs (keyOf s).1.b), .i (keyOf s).2]) ⟨S, H⟩ → runL C P (C_key_Of f) [.s (.str s)] ⟨S, H⟩ K := by
  intro s S H K hK
  have key0l : (bs key0.b).length = 16 := rfl
  by_cases h0 : s = []
  · have e : keyOf s = (key0, 1) := if_pos (.inl h0)
    rw [e] at hK
    simp only [C_key_Of, RUN_, (u_C_key_Of_k1 _).1, (u_C_key_Of_k2 _).1, (u_C_key_Of_k3 _).1, (u_C_key_Of_k4 _).1, FR_, simprocAttr, if_true, if_false, ite_true, ite_false, ne_eq, eq_self, OPK_, KEY_, h0]
    exact hK
  · have h0' : ¬ (s.length = 0) := fun e => h0 (List.length_eq_zero_iff.1 e)
    by_cases h1 : 16 < s.length
    · have e : keyOf s = (key0, 1) := if_pos (.inr (.inl h1))
      rw [e] at hK
      have h1' : (16 : Int) < (s.length : Int) := by omega
      simp only [C_key_Of, RUN_, (u_C_key_Of_k1 _).1, (u_C_key_Of_k2 _).1, (u_C_key_Of_k3 _).1, (u_C_key_Of_k4 _).1, FR_, simprocAttr, if_true, if_false, ite_true, ite_false, ne_eq, eq_self, OPK_, KEY_, h0, h1']
      exact hK
    · have h1' : ¬ ((16 : Int) < (s.length : Int)) := by omega
      simp only [C_key_Of, RUN_, (u_C_key_Of_k1 _).1, (u_C_key_Of_k2 _).1, (u_C_key_Of_k3 _).1, (u_C_key_Of_k4 _).1, FR_, simprocAttr, if_true, if_false, ite_true, ite_false, ne_eq, eq_self, OPK_, KEY_, h0, h1']
      refine hf _ _ _ _ ?_
      by_cases h2 : (0 : UInt8) ∈ s
      · have e : keyOf s = (key0, 1) := if_pos (.inr (.inr h2))
        rw [e] at hK
        have h2' : (0 : Int) ≤ Lib.indexByte s 0 := idx_neg.2 h2
        simp only [RUN_, (u_C_key_Of_k1 _).1, (u_C_key_Of_k2 _).1, (u_C_key_Of_k3 _).1, (u_C_key_Of_k4 _).1, FR_, simprocAttr, if_true, if_false, ite_true, ite_false, ne_eq, eq_self, OPK_, KEY_, h2']
        exact hK
      · have e : keyOf s = (padK s, 0) := if_neg (by rintro (h | h | h) <;> contradiction)
        rw [e] at hK
        have h2' : ¬ ((0 : Int) ≤ Lib.indexByte s 0) := fun h => h2 (idx_neg.1 h)
        have hcp := copy_str (e := ⟨1, false, 1, .s (.int .u8 0)⟩) (S := S) (l := [bs key0.b, bs key0.b]) (H := H) (j := 1) (s := s) (k := key0) rfl (by simp) rfl (by omega)
        rw [pad_drop (by omega)] at hcp
        have hk2 : (bs (padB s)).length = 16 := by rw [bs_length]; exact (padK s).h
        simp only [RUN_, (u_C_key_Of_k1 _).1, (u_C_key_Of_k2 _).1, (u_C_key_Of_k3 _).1, (u_C_key_Of_k4 _).1, FR_, simprocAttr, if_true, if_false, ite_true, ite_false, ne_eq, eq_self, OPK_, KEY_, h2', hcp, hk2]
        exact hK
end Go.AM
namespace Go.AM
open Go
theorem stkj_app {S l : List (List AV)} {j : Nat} {x : List AV} (h : S[j]? = some x) : (S ++ l)[j]? = some x := by
  have hj : j < S.length := (List.getElem?_eq_some_iff.1 h).1
  rw [List.getElem?_append_left hj, h]
theorem stkj_lt {S : List (List AV)} {j : Nat} {x : List AV} (h : S[j]? = some x) : j < S.length := (List.getElem?_eq_some_iff.1 h).1
theorem stkj_set {S : List (List AV)} {j : Nat} {x y : List AV} (h : S[j]? = some x) : (S.set j y)[j]? = some y := by
  rw [List.getElem?_set_self (stkj_lt h)]
theorem stkj_id {S : List (List AV)} {j : Nat} {x : List AV} (h : S[j]? = some x) : S.set j x = S := by
  obtain ⟨h1, h2⟩ := List.getElem?_eq_some_iff.1 h
  subst h2
  exact List.set_getElem_self h1
theorem setj_app {S l : List (List AV)} {j : Nat} {y : List AV} (h : j < S.length) : (S ++ l).set j y = S.set j y ++ l := List.set_append_left _ _ h
theorem storeJ {S : List (List AV)} {H : List HObj} {j off : Nat} {cs : List AV} {v : AV} (hj : S[j]? = some cs) (h : off < cs.length) (hc : v.cells = [v]) (hf : v.fit = true) (hu : AV.under j v = true) : storeL 1 (.ptr (.stk j) off) v ⟨S, H⟩ = some ⟨S.set j (cs.set off v), H⟩ := by
  have h1 : off + 1 ≤ cs.length := h
  simp only [storeL, hc, hf, List.length_cons, List.length_nil, writeCells, boxOf_stk, hj, Option.bind_some, splice, setBox_stk, mayHold, AV.under.go, hu, Nat.zero_add, h1, decide_true, Bool.and_self, if_true, true_and, and_self]
  rw [if_pos (by simp)]
theorem storeJs {S : List (List AV)} {H : List HObj} {j off : Nat} {cs : List AV} {x : Sc} (hj : S[j]? = some cs) (h : off < cs.length) : storeL 1 (.ptr (.stk j) off) (.s x) ⟨S, H⟩ = some ⟨S.set j (cs.set off (.s x)), H⟩ := storeJ hj h rfl rfl rfl
theorem storeJl {S : List (List AV)} {H : List HObj} {j off : Nat} {cs : List AV} {fl : Fl} {c : Nat} {es : List AV} (hj : S[j]? = some cs) (h : off < cs.length) : storeL 1 (.ptr (.stk j) off) (.list fl c es) ⟨S, H⟩ = some ⟨S.set j (cs.set off (.list fl c es)), H⟩ := storeJ hj h rfl rfl rfl
theorem slc_nil {c : Nat} {k : IntKind} (hc : c ≠ 0) : sliceL (.sl c) (.s .nilS) (some (.s (.int k 0))) none none = some (.s .nilS) := by simp [sliceL, bound, hc]
theorem slc_nilh {c : Nat} {k : IntKind} (hc : c ≠ 0) : sliceL (.sl c) (.s .nilS) none (some (.s (.int k 0))) none = some (.s .nilS) := by simp [sliceL, bound, hc]
theorem conv_bs {σ : St} {fl : Fl} {l : List UInt8} : convL .ofBytes (.list fl 1 (bs l)) σ = some (.s (.str l)) := by
  simp only [convL, AV.isSlice, if_true, elemsL, Option.bind_some, bytesIn_bs, Option.map_some]
theorem conv_nil {σ : St} : convL .ofBytes (.s .nilS) σ = some (.s (.str [])) := rfl
abbrev Rd := Option (List UInt8)
def rdc : Rd → List AV
  | none => [.s .nilS, .s (.bool true)]
  | some b => [.list .sh 1 (bs b), .s (.bool false)]
theorem rdc_len (r : Rd) : (rdc r).length = 2 := by cases r <;> rfl
def rok (r : Rd) : Prop := ∀ b, r = some b → b.length ≤ 9223372036854775807
theorem rok_none : rok none := fun _ h => by cases h
theorem rok_some {b : List UInt8} (h : b.length ≤ 9223372036854775807) : rok (some b) := fun _ e => by cases e; exact h
theorem rok_drop {b : List UInt8} {n : Nat} (h : rok (some b)) : rok (some (b.drop n)) := fun _ e => by cases e; have := h b rfl; simp; omega
def numR : Rd → Nat × Rd
  | none => (0, none)
  | some b => if (getN b).2 = 0 then (0, none) else ((getN b).1, some (b.drop (getN b).2))
def mostR (m : Nat) (r : Rd) : Nat × Rd := if m < (numR r).1 then (0, none) else numR r
def textR (n : Nat) : Rd → List UInt8 × Rd
  | none => ([], none)
  | some b => if b.length < n then ([], none) else (b.take n, some (b.drop n))
def keyR (r : Rd) : Key × Rd := (padK (textR 16 r).1, (textR 16 r).2)
def stampR (r : Rd) : Stp × Rd := if (unpackS (numR r).1).2 = true then ((unpackS (numR r).1).1, (numR r).2) else (⟨0, 0⟩, none)
def byteR : Rd → UInt8 × Rd
  | none => (0, none)
  | some [] => (0, none)
  | some (x :: b) => (x, some b)
def boolR (r : Rd) : Bool × Rd := if 1 < (byteR r).1.toNat then (false, none) else (decide ((byteR r).1 = 1), (byteR r).2)
theorem numR_some {b : List UInt8} : numR (some b) = if (getN b).2 = 0 then (0, none) else ((getN b).1, some (b.drop (getN b).2)) := rfl
theorem textR_some {n : Nat} {b : List UInt8} : textR n (some b) = if b.length < n then ([], none) else (b.take n, some (b.drop n)) := rfl
theorem numR_ok {r : Rd} (h : rok r) : rok (numR r).2 := by
  cases r with
  | none => exact rok_none
  | some b =>
    rw [numR_some]
    by_cases h1 : (getN b).2 = 0
    · rw [if_pos h1]; exact rok_none
    · rw [if_neg h1]; exact rok_drop h
theorem numR_lt (r : Rd) : (numR r).1 < 18446744073709551616 := by
  cases r with
  | none => simp [numR]
  | some b =>
    rw [numR_some]
    have := (getN_bound b).1
    by_cases h1 : (getN b).2 = 0
    · rw [if_pos h1]; simp
    · rw [if_neg h1]; exact this
theorem mostR_ok {m : Nat} {r : Rd} (h : rok r) : rok (mostR m r).2 := by unfold mostR; split; exact rok_none; exact numR_ok h
theorem mostR_le (m : Nat) (r : Rd) : (mostR m r).1 ≤ m := by unfold mostR; split; simp; omega
theorem textR_ok {n : Nat} {r : Rd} (h : rok r) : rok (textR n r).2 := by
  cases r with
  | none => exact rok_none
  | some b =>
    rw [textR_some]
    by_cases h1 : b.length < n
    · rw [if_pos h1]; exact rok_none
    · rw [if_neg h1]; exact rok_drop h
theorem keyR_ok {r : Rd} (h : rok r) : rok (keyR r).2 := textR_ok h
theorem stampR_ok {r : Rd} (h : rok r) : rok (stampR r).2 := by unfold stampR; split; exact numR_ok h; exact rok_none
theorem textR_len (n : Nat) (r : Rd) : (textR n r).1.length ≤ n := by
  cases r with
  | none => simp [textR]
  | some b =>
    rw [textR_some]
    by_cases h1 : b.length < n
    · rw [if_pos h1]; simp
    · rw [if_neg h1]; simp; omega
theorem getN_nil : getN [] = (0, 0) := rfl
theorem getG_cons {i acc : Nat} {x : UInt8} {b : List UInt8} : getG i acc (x :: b) = if i = 9 ∧ 1 < x.toNat then none else if x.toNat < 128 then (if x = 0 ∧ 0 < i then none else some (acc + x.toNat % 128 * 2 ^ (7 * i), i + 1)) else if i = 9 then none else getG (i + 1) (acc + x.toNat % 128 * 2 ^ (7 * i)) b := by rw [getG]
theorem getG_big : ∀ (b : List UInt8) (i acc v n : Nat), 0 < i → getG i acc b = some (v, n) → acc + 2 ^ (7 * i) ≤ v
  | [], i, acc, v, n, _, h => by simp [getG] at h
  | x :: b, i, acc, v, n, hi, h => by
    rw [getG_cons] at h
    split at h
    · cases h
    split at h
    · rename_i h1
      split at h
      · cases h
      · rename_i h2
        injection h with h; injection h with h3 h4
        have hx : x.toNat ≠ 0 := fun e => h2 ⟨UInt8.toNat_inj.1 (by simpa using e), hi⟩
        have : 1 * 2 ^ (7 * i) ≤ x.toNat % 128 * 2 ^ (7 * i) := Nat.mul_le_mul_right _ (by omega)
        omega
    · split at h
      · cases h
      · have := getG_big b (i + 1) _ v n (by omega) h
        have h2 : (2:Nat) ^ (7 * i) ≤ 2 ^ (7 * (i + 1)) := Nat.pow_le_pow_right (by omega) (by omega)
        have h3 := Nat.zero_le (x.toNat % 128 * 2 ^ (7 * i))
        omega
theorem bool_most (r : Rd) : boolR r = (decide ((mostR 1 r).1 = 1), (mostR 1 r).2) := by
  match r with
  | none => rfl
  | some [] => rfl
  | some (x :: b) =>
    have hx := x.toNat_lt
    have hb1 : boolR (some (x :: b)) = if 1 < x.toNat then (false, none) else (decide (x = 1), some b) := rfl
    by_cases h : x.toNat < 128
    · have hg : getN (x :: b) = (x.toNat, 1) := by
        unfold getN
        rw [getG_cons, if_neg (by omega), if_pos h, if_neg (by omega)]
        simp; omega
      have hn : numR (some (x :: b)) = (x.toNat, some b) := by rw [numR_some, hg]; simp
      rw [hb1, mostR, hn]
      by_cases h1 : 1 < x.toNat
      · simp [h1]
      · have : (x = 1) = (x.toNat = 1) := propext ⟨fun e => by rw [e]; rfl, fun e => UInt8.toNat_inj.1 e⟩
        simp [h1, this]
    · have hn : (numR (some (x :: b))).1 = 0 ∧ (numR (some (x :: b))).2 = none ∨ 1 < (numR (some (x :: b))).1 := by
        rw [numR_some]
        have hg : getN (x :: b) = (getG 1 (0 + x.toNat % 128 * 2 ^ (7 * 0)) b).getD (0, 0) := by
          unfold getN
          rw [getG_cons, if_neg (by omega), if_neg h, if_neg (by omega)]
        cases hq : getG 1 (0 + x.toNat % 128 * 2 ^ (7 * 0)) b with
        | none => left; rw [hg, hq]; simp
        | some p =>
          obtain ⟨v, n⟩ := p
          right
          have hb := getG_big b 1 _ v n (by omega) hq
          have hb2 := getG_bound b 1 _ v n (by omega) (by omega) hq
          rw [hg, hq]
          simp only [Option.getD_some]
          rw [if_neg (by omega)]
          simp only
          omega
      rw [hb1, mostR, if_pos (by omega)]
      rcases hn with ⟨h1, h2⟩ | h1
      · rw [if_neg (by omega), h1, h2]; simp
      · rw [if_pos h1]; simp
end Go.AM
namespace Go.AM
open Go
set_option maxRecDepth 20000
def TextS (C : CallW) (f : FuncId) : Prop := ∀ (k : Key) S H K, K (.str (textOf k)) ⟨S, H⟩ → C (.fn f) [.agg (bs k.b)] ⟨S, H⟩ K
def BoolK (g : Key → Bool) (C : CallW) (f : FuncId) : Prop := ∀ (k : Key) S H K, K (.bool (g k)) ⟨S, H⟩ → C (.fn f) [.agg (bs k.b)] ⟨S, H⟩ K
theorem text_nz (k : Key) : (0 : UInt8) ∉ textOf k := by
  intro h
  have h2 : ∀ (l : List UInt8), (0 : UInt8) ∉ l.takeWhile (· != 0) := by
    intro l
    induction l with
    | nil => simp
    | cons x l ih =>
      rw [List.takeWhile_cons]
      split
      · rename_i hx
        intro h
        rcases List.mem_cons.1 h with h | h
        · subst h; simp at hx
        · exact ih h
      · simp
  exact h2 _ h
theorem text_len (k : Key) : (textOf k).length ≤ 16 := by
  have := (List.takeWhile_sublist (fun x : UInt8 => x != 0) (l := k.b)).length_le
  rw [k.h] at this
  exact this
def goodK (k : Key) : Bool := decide (textOf k ≠ []) && decide (padK (textOf k) = k)
theorem good_of (k : Key) : goodK k = (decide ((keyOf (textOf k)).2 = 0) && decide ((keyOf (textOf k)).1 = k)) := by
  unfold goodK keyOf
  by_cases h : textOf k = []
  · rw [if_pos (.inl h)]; simp [h]
  · rw [if_neg (by
      rintro (h1 | h1 | h1)
      · exact h h1
      · have := text_len k; omega
      · exact text_nz k h1)]
    simp [h]
set_option maxHeartbeats 1000000 in
theorem key_Good_spec {C : CallW} (hC : LeC C C) (P : Program) {f1 f2 : FuncId} (h1 : TextS C f1) (h2 : OfK C f2) : ∀ (k : Key) S H K, K (.bool (goodK k)) ⟨S, H⟩ → runL C P (C_key_Good f1 f2) [.agg (bs k.b)] ⟨S, H⟩ K := by
  intro k S H K hK
  rw [good_of] at hK
  simp only [C_key_Good, RUN_, (u_C_key_Good_k1 _ _).1, (u_C_key_Good_k2 _ _).1, FR_, simprocAttr, if_true, if_false, ite_true, ite_false, ne_eq, eq_self, OPK_, KEY_]
  refine h1 _ _ _ _ ?_
  simp only [RUN_, (u_C_key_Good_k1 _ _).1, (u_C_key_Good_k2 _ _).1, FR_, simprocAttr, if_true, if_false, ite_true, ite_false, ne_eq, eq_self, OPK_, KEY_]
  refine h2 _ _ _ _ ?_
  by_cases he : (keyOf (textOf k)).2 = 0
  · simp only [RUN_, (u_C_key_Good_k1 _ _).1, (u_C_key_Good_k2 _ _).1, FR_, simprocAttr, if_true, if_false, ite_true, ite_false, ne_eq, eq_self, OPK_, KEY_, he]
    rw [he] at hK
    simpa using hK
  · simp only [RUN_, (u_C_key_Good_k1 _ _).1, (u_C_key_Good_k2 _ _).1, FR_, simprocAttr, if_true, if_false, ite_true, ite_false, ne_eq, eq_self, OPK_, KEY_, he]
    simpa [he] using hK
def goodL : Bool → List UInt8 → Bool
  | _, [] => true
  | e, x :: l => if x = 0 then goodL true l else if e then false else goodL false l
def goodR (k : Key) : Bool := goodL false k.b && decide (k.b[0]'(by rw [k.h]; omega) ≠ 0)
theorem goodL_drop {e : Bool} {l : List UInt8} {i : Nat} (h : i < l.length) : goodL e (l.drop i) = if l[i] = 0 then goodL true (l.drop (i + 1)) else if e then false else goodL false (l.drop (i + 1)) := by
  rw [List.drop_eq_getElem_cons h]; rfl
theorem wrap_succ {i : Nat} (h : i < 4611686018427387904) : IntKind.i64.wrap ((i : Int) + 1) = ((i + 1 : Nat) : Int) := by rw [wrap_i64 (by omega) (by omega)]; rfl
theorem u8_zero {x : UInt8} : ((x.toNat : Int) = 0) ↔ x = 0 := ⟨fun h => UInt8.toNat_inj.1 (by simp; omega), fun h => by subst h; rfl⟩
set_option maxHeartbeats 1000000 in
theorem ref10_Good_spec {C : CallW} (hC : LeC C C) (P : Program) : ∀ (k : Key) S H K, K (.bool (goodR k)) ⟨S, H⟩ → runL C P C_hourglassref10_Good [.agg (bs k.b)] ⟨S, H⟩ K := by
  intro k S H K hK
  have hkl := k.h
  simp only [C_hourglassref10_Good, RUN_, u_C_hourglassref10_Good_k1.1, u_C_hourglassref10_Good_k2.1, u_C_hourglassref10_Good_k3.1, u_C_hourglassref10_Good_k4.1, u_C_hourglassref10_Good_k5.1, u_C_hourglassref10_Good_k6.1, u_C_hourglassref10_Good_k7.1, FR_, simprocAttr, if_true, if_false, ite_true, ite_false, ne_eq, eq_self, OPK_, KEY_]
  refine loop_rule hC (α := Nat × Bool) (fun a => 16 - a.1) (fun a => [.undef, .ptr (.stk S.length) 0, .undef, .bool a.2, .s (.int .i64 a.1), .undef, .undef, .undef, .undef, .undef, .undef, .undef, .undef, .undef, .undef, .undef, .undef]) (fun _ => S ++ [bs k.b]) (fun _ => H) (fun a => a.1 ≤ 16 ∧ goodL false k.b = goodL a.2 (k.b.drop a.1)) (0, false) ⟨by simp, by simp⟩ rfl (app_take_add _ _ _) rfl (fun i hi => by simp [AV.under, AV.under.go]) ?_
  rintro ⟨i, e⟩ ⟨hi, hinv⟩ ih
  dsimp only at hi hinv ih ⊢
  by_cases h16 : i < 16
  · have hb := bs_get (l := k.b) (i := i) (by omega)
    have hw := wrap_succ (i := i) (by omega)
    have h1 : ((i : Int) < 16) := by omega
    have h2 : (0 : Int) ≤ (i : Int) := by omega
    rw [goodL_drop (by omega)] at hinv
    by_cases hz : k.b[i]'(by omega) = 0
    · simp only [RUN_, u_C_hourglassref10_Good_k1.1, u_C_hourglassref10_Good_k2.1, u_C_hourglassref10_Good_k3.1, u_C_hourglassref10_Good_k4.1, u_C_hourglassref10_Good_k5.1, u_C_hourglassref10_Good_k6.1, u_C_hourglassref10_Good_k7.1, FR_, simprocAttr, if_true, if_false, ite_true, ite_false, ne_eq, eq_self, OPK_, KEY_, indexAddrL, h1, h2, hb, u8, hz, UInt8.toNat_zero, hw, Nat.mul_one]
      rw [if_pos hz] at hinv
      exact ih (i + 1, true) _ _ _ (by simp; omega) ⟨by simp; omega, hinv⟩ rfl (app_take_add _ _ _) rfl
    · have hz' : ¬ (((k.b[i]'(by omega)).toNat : Int) = 0) := fun e => hz (u8_zero.1 e)
      rw [if_neg hz] at hinv
      cases e with
      | true =>
        have : goodR k = false := by unfold goodR; rw [hinv]; rfl
        rw [this] at hK
        simp only [RUN_, u_C_hourglassref10_Good_k1.1, u_C_hourglassref10_Good_k2.1, u_C_hourglassref10_Good_k3.1, u_C_hourglassref10_Good_k4.1, u_C_hourglassref10_Good_k5.1, u_C_hourglassref10_Good_k6.1, u_C_hourglassref10_Good_k7.1, FR_, simprocAttr, if_true, if_false, ite_true, ite_false, ne_eq, eq_self, OPK_, KEY_, indexAddrL, h1, h2, hb, u8, hz', hw, Nat.mul_one]
        exact hK
      | false =>
        simp only [RUN_, u_C_hourglassref10_Good_k1.1, u_C_hourglassref10_Good_k2.1, u_C_hourglassref10_Good_k3.1, u_C_hourglassref10_Good_k4.1, u_C_hourglassref10_Good_k5.1, u_C_hourglassref10_Good_k6.1, u_C_hourglassref10_Good_k7.1, FR_, simprocAttr, if_true, if_false, ite_true, ite_false, ne_eq, eq_self, OPK_, KEY_, indexAddrL, h1, h2, hb, u8, hz', hw, Nat.mul_one]
        exact ih (i + 1, false) _ _ _ (by simp; omega) ⟨by simp; omega, by simpa using hinv⟩ rfl (app_take_add _ _ _) rfl
  · have h1 : ¬ ((i : Int) < 16) := by omega
    have hb := bs_get (l := k.b) (i := 0) (by omega)
    have hd : k.b.drop i = [] := List.drop_of_length_le (by omega)
    rw [hd] at hinv
    have hz : (((k.b[0]'(by omega)).toNat : Int) = 0) ↔ k.b[0]'(by omega) = 0 := u8_zero
    have hg : goodR k = decide (k.b[0]'(by omega) ≠ 0) := by unfold goodR; rw [hinv]; rfl
    rw [hg] at hK
    simp only [RUN_, u_C_hourglassref10_Good_k1.1, u_C_hourglassref10_Good_k2.1, u_C_hourglassref10_Good_k3.1, u_C_hourglassref10_Good_k4.1, u_C_hourglassref10_Good_k5.1, u_C_hourglassref10_Good_k6.1, u_C_hourglassref10_Good_k7.1, FR_, simprocAttr, if_true, if_false, ite_true, ite_false, ne_eq, eq_self, OPK_, KEY_, indexAddrL, h1, hb, u8, hz, Nat.mul_one]
    simpa using hK
theorem cmp_drop {a b : List UInt8} {i : Nat} (ha : i < a.length) (hb : i < b.length) : Lib.compareBytes (a.drop i) (b.drop i) = if a[i] < b[i] then -1 else if b[i] < a[i] then 1 else Lib.compareBytes (a.drop (i + 1)) (b.drop (i + 1)) := by
  rw [List.drop_eq_getElem_cons ha, List.drop_eq_getElem_cons hb]; rfl
theorem u8_lt {x y : UInt8} : ((x.toNat : Int) < (y.toNat : Int)) ↔ x < y := by rw [UInt8.lt_iff_toNat_lt]; omega
set_option maxHeartbeats 1000000 in
theorem ref10_Cmp_spec {C : CallW} (hC : LeC C C) (P : Program) : ∀ (a b : Key) S H K, K (.i (Lib.compareBytes a.b b.b)) ⟨S, H⟩ → runL C P C_hourglassref10_Cmp [.agg (bs a.b), .agg (bs b.b)] ⟨S, H⟩ K := by
  intro a b S H K hK
  have hal := a.h
  have hbl := b.h
  simp only [C_hourglassref10_Cmp, RUN_, u_C_hourglassref10_Cmp_k1.1, u_C_hourglassref10_Cmp_k2.1, u_C_hourglassref10_Cmp_k3.1, u_C_hourglassref10_Cmp_k4.1, u_C_hourglassref10_Cmp_k5.1, u_C_hourglassref10_Cmp_k6.1, FR_, simprocAttr, if_true, if_false, ite_true, ite_false, ne_eq, eq_self, OPK_, KEY_]
  refine loop_rule hC (α := Nat) (fun i => 16 - i) (fun i => [.undef, .undef, .ptr (.stk S.length) 0, .ptr (.stk (S.length + 1)) 0, .undef, .s (.int .i64 i), .undef, .undef, .undef, .undef, .undef, .undef, .undef, .undef, .undef, .undef, .undef, .undef, .undef, .undef, .undef, .undef, .undef, .undef]) (fun _ => S ++ [bs a.b, bs b.b]) (fun _ => H) (fun i => i ≤ 16 ∧ Lib.compareBytes a.b b.b = Lib.compareBytes (a.b.drop i) (b.b.drop i)) 0 ⟨by simp, by simp⟩ rfl (app_take_add _ _ _) rfl (fun i hi => by simp [AV.under, AV.under.go]) ?_
  rintro i ⟨hi, hinv⟩ ih
  by_cases h16 : i < 16
  · have hb := bs_get (l := a.b) (i := i) (by omega)
    have hb' := bs_get (l := b.b) (i := i) (by omega)
    have hw := wrap_succ (i := i) (by omega)
    have h1 : ((i : Int) < 16) := by omega
    have h2 : (0 : Int) ≤ (i : Int) := by omega
    rw [cmp_drop (by omega) (by omega)] at hinv
    by_cases hx : a.b[i]'(by omega) < b.b[i]'(by omega)
    · rw [if_pos hx] at hinv
      rw [hinv] at hK
      have hx' := u8_lt.2 hx
      simp only [RUN_, u_C_hourglassref10_Cmp_k1.1, u_C_hourglassref10_Cmp_k2.1, u_C_hourglassref10_Cmp_k3.1, u_C_hourglassref10_Cmp_k4.1, u_C_hourglassref10_Cmp_k5.1, u_C_hourglassref10_Cmp_k6.1, FR_, simprocAttr, if_true, if_false, ite_true, ite_false, ne_eq, eq_self, OPK_, KEY_, indexAddrL, h1, h2, hb, hb', u8, hx', hw, Nat.mul_one]
      exact hK
    · rw [if_neg hx] at hinv
      have hx' : ¬ (((a.b[i]'(by omega)).toNat : Int) < ((b.b[i]'(by omega)).toNat : Int)) := fun h => hx (u8_lt.1 h)
      by_cases hy : b.b[i]'(by omega) < a.b[i]'(by omega)
      · rw [if_pos hy] at hinv
        rw [hinv] at hK
        have hy' := u8_lt.2 hy
        simp only [RUN_, u_C_hourglassref10_Cmp_k1.1, u_C_hourglassref10_Cmp_k2.1, u_C_hourglassref10_Cmp_k3.1, u_C_hourglassref10_Cmp_k4.1, u_C_hourglassref10_Cmp_k5.1, u_C_hourglassref10_Cmp_k6.1, FR_, simprocAttr, if_true, if_false, ite_true, ite_false, ne_eq, eq_self, OPK_, KEY_, indexAddrL, h1, h2, hb, hb', u8, hx', hy', hw, Nat.mul_one]
        exact hK
      · rw [if_neg hy] at hinv
        have hy' : ¬ (((b.b[i]'(by omega)).toNat : Int) < ((a.b[i]'(by omega)).toNat : Int)) := fun h => hy (u8_lt.1 h)
        simp only [RUN_, u_C_hourglassref10_Cmp_k1.1, u_C_hourglassref10_Cmp_k2.1, u_C_hourglassref10_Cmp_k3.1, u_C_hourglassref10_Cmp_k4.1, u_C_hourglassref10_Cmp_k5.1, u_C_hourglassref10_Cmp_k6.1, FR_, simprocAttr, if_true, if_false, ite_true, ite_false, ne_eq, eq_self, OPK_, KEY_, indexAddrL, h1, h2, hb, hb', u8, hx', hy', hw, Nat.mul_one]
        exact ih (i + 1) _ _ _ (by omega) ⟨by omega, hinv⟩ rfl (app_take_add _ _ _) rfl
  · have h1 : ¬ ((i : Int) < 16) := by omega
    have hd : a.b.drop i = [] := List.drop_of_length_le (by omega)
    have hd' : b.b.drop i = [] := List.drop_of_length_le (by omega)
    rw [hd, hd'] at hinv
    rw [hinv] at hK
    simp only [RUN_, u_C_hourglassref10_Cmp_k1.1, u_C_hourglassref10_Cmp_k2.1, u_C_hourglassref10_Cmp_k3.1, u_C_hourglassref10_Cmp_k4.1, u_C_hourglassref10_Cmp_k5.1, u_C_hourglassref10_Cmp_k6.1, FR_, simprocAttr, if_true, if_false, ite_true, ite_false, ne_eq, eq_self, OPK_, KEY_, h1]
    exact hK
end Go.AM
namespace Go.AM
open Go
theorem find_no : ∀ (es : List Entry) (l : List Key) (k : Key) (i : Nat), es.map (·.key) = l.map kA → k ∉ l → findL (.leaf lk) (.agg (bs k.b)) es i = some none
  | [], l, k, i, _, _ => rfl
  | e :: es, [], k, i, h, _ => by simp at h
  | e :: es, a :: l, k, i, h, hk => by
    simp only [List.map_cons, List.cons.injEq] at h
    have hne : ¬ (k = a) := fun e => hk (by rw [e]; simp)
    have hq : keyEqL (.leaf lk) (.agg (bs k.b)) e.key = some false := by
      rw [h.1]
      simp only [keyEqL, KK.fits, kA, fits_k, and_self, if_true, AV.beq, beq_kk, hne, decide_false]
    rw [findL, hq]
    exact find_no es l k (i + 1) h.2 (fun m => hk (List.mem_cons_of_mem _ m))
theorem find_yes : ∀ (es : List Entry) (l : List Key) (k : Key) (i : Nat), es.map (·.key) = l.map kA → k ∈ l → ∃ j e, es[j]? = some e ∧ l[j]? = some k ∧ findL (.leaf lk) (.agg (bs k.b)) es i = some (some (i + j, e))
  | [], l, k, i, h, hk => by cases l with
    | nil => simp at hk
    | cons => simp at h
  | e :: es, [], k, i, h, _ => by simp at h
  | e :: es, a :: l, k, i, h, hk => by
    simp only [List.map_cons, List.cons.injEq] at h
    by_cases hne : k = a
    · subst hne
      have hq : keyEqL (.leaf lk) (.agg (bs k.b)) e.key = some true := by
        rw [h.1]
        simp only [keyEqL, KK.fits, kA, fits_k, and_self, if_true, AV.beq, beq_kk, decide_true]
      refine ⟨0, e, rfl, rfl, ?_⟩
      rw [findL, hq]; rfl
    · have hq : keyEqL (.leaf lk) (.agg (bs k.b)) e.key = some false := by
        rw [h.1]
        simp only [keyEqL, KK.fits, kA, fits_k, and_self, if_true, AV.beq, beq_kk, hne, decide_false]
      have hk' : k ∈ l := by
        rcases List.mem_cons.1 hk with h | h
        · exact absurd h hne
        · exact h
      obtain ⟨j, e', h1, h2, h3⟩ := find_yes es l k (i + 1) h.2 hk'
      refine ⟨j + 1, e', h1, h2, ?_⟩
      rw [findL, hq]
      show findL (.leaf lk) (.agg (bs k.b)) es (i + 1) = _
      rw [h3]
      congr 3; omega
def seenE (l : List Key) : List Entry := l.zipIdx.map fun p => ⟨kA p.1, .bool true, p.2⟩
theorem seenE_keys (l : List Key) : (seenE l).map (·.key) = l.map kA := by
  unfold seenE
  rw [List.map_map]
  have : ((fun x : Entry => x.key) ∘ fun p : Key × Nat => (⟨kA p.1, .bool true, p.2⟩ : Entry)) = kA ∘ Prod.fst := rfl
  rw [this, ← List.map_map, List.zipIdx_map_fst]
theorem seenE_snoc (l : List Key) (k : Key) : seenE (l ++ [k]) = seenE l ++ [⟨kA k, .bool true, l.length⟩] := by
  unfold seenE
  rw [List.zipIdx_append]; simp
theorem seenE_val {l : List Key} {j : Nat} {e : Entry} (h : (seenE l)[j]? = some e) : e.val = .bool true := by
  unfold seenE at h
  rw [List.getElem?_map] at h
  cases hz : l.zipIdx[j]? with
  | none => rw [hz] at h; simp at h
  | some p => rw [hz] at h; simp at h; rw [← h]
theorem look_seen {S : List (List AV)} {H : List HObj} {l : List Key} {k : Key} {n : Nat} : lookupL (.leaf lk) (.s (.bool false)) false (.map H.length) (.agg (bs k.b)) ⟨S, H ++ [.map (seenE l) n]⟩ = some (.s (.bool (decide (k ∈ l)))) := by
  have hm : mapOf ⟨S, H ++ [.map (seenE l) n]⟩ (.map H.length) = some (seenE l, n) := by simp [mapOf]
  simp only [lookupL, KK.fits, fits_k, if_true, hm]
  by_cases h : k ∈ l
  · obtain ⟨j, e, h1, h2, h3⟩ := find_yes _ _ k 0 (seenE_keys l) h
    rw [h3]
    simp [seenE_val h1, h]
  · rw [find_no _ _ k 0 (seenE_keys l) h]
    simp [h]
theorem upd_seen {S : List (List AV)} {H : List HObj} {l : List Key} {k : Key} {n : Nat} (h : k ∉ l) (hn : l.length = n) : updateL (.leaf lk) (.map H.length) (.agg (bs k.b)) (.s (.bool true)) ⟨S, H ++ [.map (seenE l) n]⟩ = some ⟨S, H ++ [.map (seenE (l ++ [k])) (n + 1)]⟩ := by
  subst hn
  have hm : mapOf ⟨S, H ++ [.map (seenE l) l.length]⟩ (.map H.length) = some (seenE l, l.length) := by simp [mapOf]
  simp only [updateL, KK.fits, fits_k, AV.under, and_self, if_true, hm]
  rw [find_no _ _ k 0 (seenE_keys l) h]
  simp only [setMap, app_set0, List.set_cons_zero, seenE_snoc, List.length_append, List.length_cons, List.length_nil]
  rfl
def sgood (seen : List Key) : List Wr → Bool
  | [] => true
  | w :: l => if goodK w.key = false then false else if w.key ∈ seen then false else if 200 < w.val.length then false else if w.gone = true ∧ w.val ≠ [] then false else sgood (seen ++ [w.key]) l
end Go.AM
namespace Go.AM
open Go
set_option maxRecDepth 20000
def RdS (C : CallW) (f : FuncId) (args : List AV) (run : Rd → AV × Rd) : Prop := ∀ (j : Nat) (r : Rd) S H (K : AV → St → Prop), S[j]? = some (rdc r) → rok r → K (run r).1 ⟨S.set j (rdc (run r).2), H⟩ → C (.fn f) (.ptr (.stk j) 0 :: args) ⟨S, H⟩ K
theorem rec_spoil_spec {C : CallW} (P : Program) : ∀ (j : Nat) (r : Rd) S H (K : AV → St → Prop), S[j]? = some (rdc r) → rok r → K (.tup []) ⟨S.set j (rdc none), H⟩ → runL C P C_rec_Reader_spoil [.ptr (.stk j) 0] ⟨S, H⟩ K := by
  intro j r S H K hj hr hK
  have hlt := stkj_lt hj
  have s1 : storeL 1 (.ptr (.stk j) 0) (.s .nilS) ⟨S, H⟩ = some ⟨S.set j ((rdc r).set 0 (.s .nilS)), H⟩ := storeJs hj (by rw [rdc_len]; omega)
  have s2 : storeL 1 (.ptr (.stk j) 1) (.s (.bool true)) ⟨S.set j ((rdc r).set 0 (.s .nilS)), H⟩ = some ⟨(S.set j ((rdc r).set 0 (.s .nilS))).set j (((rdc r).set 0 (.s .nilS)).set 1 (.s (.bool true))), H⟩ := storeJs (stkj_set hj) (by rw [List.length_set, rdc_len]; omega)
  have s3 : ((rdc r).set 0 (.s .nilS)).set 1 (.s (.bool true)) = rdc none := by cases r <;> rfl
  rw [s3, List.set_set] at s2
  have ht : (S.set j (rdc none)).take S.length = S.set j (rdc none) := List.take_of_length_le (by rw [List.length_set]; omega)
  simp only [C_rec_Reader_spoil, A_, simprocAttr, ne_eq, s1, s2, ht, end1_nil]
  exact hK
theorem take_set {S : List (List AV)} {j : Nat} {x : List AV} : (S.set j x).take S.length = S.set j x := List.take_of_length_le (by rw [List.length_set]; omega)
set_option maxHeartbeats 4000000 in
theorem rec_Num_spec {C : CallW} (P : Program) {c : Nat → FuncId} (h0 : GetS C (c 0)) (h1 : RdS C (c 1) [] fun _ => (.tup [], none)) : ∀ (j : Nat) (r : Rd) S H (K : AV → St → Prop), S[j]? = some (rdc r) → rok r → K (.s (.int .u64 ((numR r).1 : Nat))) ⟨S.set j (rdc (numR r).2), H⟩ → runL C P (C_rec_Reader_Num c) [.ptr (.stk j) 0] ⟨S, H⟩ K := by
  intro j r S H K hj hr hK
  have hlt := stkj_lt hj
  have hj' : S[j]? = some (rdc r) := hj
  cases r with
  | none =>
    unfold rdc at hj'
    simp only [C_rec_Reader_Num, A_, simprocAttr, ne_eq, (U_rec_Reader_Num _).1, hj']
    refine h0 _ [] _ _ _ .n (by simp) ?_
    rw [getN_nil]
    simp only [A_, simprocAttr, ne_eq, (U_rec_Reader_Num _).1, hj']
    refine h1 j none _ _ _ hj hr ?_
    simp only [A_, simprocAttr, ne_eq, (U_rec_Reader_Num _).1, take_set]
    exact hK
  | some b =>
    unfold rdc at hj'
    simp only [C_rec_Reader_Num, A_, simprocAttr, ne_eq, (U_rec_Reader_Num _).1, hj']
    refine h0 _ b _ _ _ .l (hr b rfl) ?_
    rw [numR_some] at hK
    by_cases hn : (getN b).2 = 0
    · rw [if_pos hn] at hK
      simp only [A_, simprocAttr, ne_eq, (U_rec_Reader_Num _).1, hj', hn]
      refine h1 j _ _ _ _ hj hr ?_
      simp only [A_, simprocAttr, ne_eq, (U_rec_Reader_Num _).1, take_set]
      exact hK
    · rw [if_neg hn] at hK
      have hsl := slc_lo (c := 1) (n := (getN b).2) (es := bs b) (k := .i64) (by rw [bs_length]; exact (getN_bound b).2.1)
      rw [bs_drop] at hsl
      have hst : storeL 1 (.ptr (.stk j) 0) (.list .sh 1 (bs (b.drop (getN b).2))) ⟨S, H⟩ = some ⟨S.set j (rdc (some (b.drop (getN b).2))), H⟩ := storeJl hj (by rw [rdc_len]; omega)
      simp only [A_, simprocAttr, ne_eq, (U_rec_Reader_Num _).1, hj', hn, hsl, hst, take_set]
      exact hK
theorem rec_Most_spec {C : CallW} (P : Program) {c : Nat → FuncId} (h0 : RdS C (c 0) [] fun r => (.s (.int .u64 ((numR r).1 : Nat)), (numR r).2)) (h1 : RdS C (c 1) [] fun _ => (.tup [], none)) (m : Nat) (hm : m < 9223372036854775808) : ∀ (j : Nat) (r : Rd) S H (K : AV → St → Prop), S[j]? = some (rdc r) → rok r → K (.s (.int .i64 ((mostR m r).1 : Nat))) ⟨S.set j (rdc (mostR m r).2), H⟩ → runL C P (C_rec_Reader_Most c) [.ptr (.stk j) 0, .s (.int .i64 m)] ⟨S, H⟩ K := by
  intro j r S H K hj hr hK
  simp only [C_rec_Reader_Most, A_, simprocAttr, ne_eq, (U_rec_Reader_Most _).1]
  refine h0 j r _ _ _ hj hr ?_
  have hc := wrap_u64n (n := m) (by omega)
  unfold mostR at hK
  by_cases h : m < (numR r).1
  · have h' : ((m : Int) < ((numR r).1 : Int)) := by omega
    rw [if_pos h] at hK
    simp only [A_, simprocAttr, ne_eq, (U_rec_Reader_Most _).1, convL, hc, h']
    refine h1 j _ _ _ _ (stkj_set hj) (numR_ok hr) ?_
    rw [List.set_set]
    simp only [A_, simprocAttr, ne_eq, (U_rec_Reader_Most _).1, take_set]
    exact hK
  · have h' : ¬ ((m : Int) < ((numR r).1 : Int)) := by omega
    have hw : IntKind.i64.wrap (((numR r).1 : Nat) : Int) = ((numR r).1 : Nat) := wrap_i64 (by omega) (by omega)
    rw [if_neg h] at hK
    simp only [A_, simprocAttr, ne_eq, (U_rec_Reader_Most _).1, convL, hc, h', hw, take_set]
    exact hK
set_option maxHeartbeats 4000000 in
theorem rec_Text_spec {C : CallW} (P : Program) {c : Nat → FuncId} (h1 : RdS C (c 0) [] fun _ => (.tup [], none)) (n : Nat) : ∀ (j : Nat) (r : Rd) S H (K : AV → St → Prop), S[j]? = some (rdc r) → rok r → K (.s (.str (textR n r).1)) ⟨S.set j (rdc (textR n r).2), H⟩ → runL C P (C_rec_Reader_Text c) [.ptr (.stk j) 0, .s (.int .i64 n)] ⟨S, H⟩ K := by
  intro j r S H K hj hr hK
  have hlt := stkj_lt hj
  have hj' : S[j]? = some (rdc r) := hj
  cases r with
  | none =>
    unfold rdc at hj'
    by_cases hn : n = 0
    · subst hn
      have hst : storeL 1 (.ptr (.stk j) 0) (.s .nilS) ⟨S, H⟩ = some ⟨S.set j (rdc none), H⟩ := storeJs hj (by rw [rdc_len]; omega)
      have e0 : (((0 : Nat) : Int)) = 0 := rfl
      have z1 := slc_nil (c := 1) (k := .i64) (by omega)
      have z2 := slc_nilh (c := 1) (k := .i64) (by omega)
      simp only [C_rec_Reader_Text, A_, simprocAttr, ne_eq, (U_rec_Reader_Text _).1, hj', e0, z1, z2, conv_nil, hst, take_set]
      exact hK
    · have hp : ((0 : Int) < (n : Int)) := by omega
      simp only [C_rec_Reader_Text, A_, simprocAttr, ne_eq, (U_rec_Reader_Text _).1, hj', hp]
      refine h1 j none _ _ _ hj hr ?_
      simp only [A_, simprocAttr, ne_eq, (U_rec_Reader_Text _).1, take_set]
      exact hK
  | some b =>
    unfold rdc at hj'
    have hbl := bs_length b
    rw [textR_some] at hK
    by_cases h : b.length < n
    · have h' : ((b.length : Int) < (n : Int)) := by omega
      rw [if_pos h] at hK
      simp only [C_rec_Reader_Text, A_, simprocAttr, ne_eq, (U_rec_Reader_Text _).1, hj', hbl, h']
      refine h1 j _ _ _ _ hj hr ?_
      simp only [A_, simprocAttr, ne_eq, (U_rec_Reader_Text _).1, take_set]
      exact hK
    · have h' : ¬ ((b.length : Int) < (n : Int)) := by omega
      rw [if_neg h] at hK
      have hsl := slc_lo (c := 1) (n := n) (es := bs b) (k := .i64) (by rw [bs_length]; omega)
      rw [bs_drop] at hsl
      have hsh := slc_hi (c := 1) (n := n) (es := bs b) (k := .i64) (by rw [bs_length]; omega)
      rw [bs_take] at hsh
      have hst : storeL 1 (.ptr (.stk j) 0) (.list .sh 1 (bs (b.drop n))) ⟨S, H⟩ = some ⟨S.set j (rdc (some (b.drop n))), H⟩ := storeJl hj (by rw [rdc_len]; omega)
      simp only [C_rec_Reader_Text, A_, simprocAttr, ne_eq, (U_rec_Reader_Text _).1, hj', hbl, h', hsl, hsh, conv_bs, hst, take_set]
      exact hK
end Go.AM
namespace Go.AM
open Go
set_option maxRecDepth 20000
theorem set_len {S : List (List AV)} {j : Nat} {x : List AV} : ∃ S', S.set j x = S' ∧ S.length = S'.length := ⟨_, rfl, by rw [List.length_set]⟩
set_option maxHeartbeats 4000000 in
theorem rec_Key_spec {C : CallW} (P : Program) {c : Nat → FuncId} (h0 : ∀ n : Nat, RdS C (c 0) [.s (.int .i64 n)] fun r => (.s (.str (textR n r).1), (textR n r).2)) : ∀ (j : Nat) (r : Rd) S H (K : AV → St → Prop), S[j]? = some (rdc r) → rok r → K (.agg (bs (keyR r).1.b)) ⟨S.set j (rdc (keyR r).2), H⟩ → runL C P (C_rec_Reader_Key c) [.ptr (.stk j) 0] ⟨S, H⟩ K := by
  intro j r S H K hj hr hK
  have hlt := stkj_lt hj
  simp only [C_rec_Reader_Key, A_, simprocAttr, ne_eq, (U_rec_Reader_Key _).1]
  refine h0 16 j r _ _ _ (stkj_app hj) hr ?_
  rw [setj_app hlt]
  obtain ⟨S', hS, hl⟩ := set_len (S := S) (j := j) (x := rdc (textR 16 r).2)
  unfold keyR at hK
  rw [hS] at hK ⊢
  have hcp := copy_str (e := eB) (S := S') (l := [bs key0.b, bs key0.b]) (H := H) (j := 1) (s := (textR 16 r).1) (k := key0) rfl (by simp) rfl (textR_len 16 r)
  have hpd : bs ((textR 16 r).1 ++ key0.b.drop (textR 16 r).1.length) = bs (padK (textR 16 r).1).b := by rw [pad_drop (textR_len 16 r)]; rfl
  rw [hpd] at hcp
  simp only [eB] at hcp
  simp only [hl, A_, simprocAttr, ne_eq, (U_rec_Reader_Key _).1, hcp]
  exact hK
theorem rec_Stamp_spec {C : CallW} (P : Program) {c : Nat → FuncId} (h0 : RdS C (c 0) [] fun r => (.s (.int .u64 ((numR r).1 : Nat)), (numR r).2)) (h1 : ∀ n : Nat, n < 18446744073709551616 → FnS C (c 1) [.s (.int .u64 n)] (.tup [.agg (stc (unpackS n).1), .s (.int .i64 (if (unpackS n).2 = true then 0 else 1))])) (h2 : RdS C (c 2) [] fun _ => (.tup [], none)) : ∀ (j : Nat) (r : Rd) S H (K : AV → St → Prop), S[j]? = some (rdc r) → rok r → K (.agg (stc (stampR r).1)) ⟨S.set j (rdc (stampR r).2), H⟩ → runL C P (C_rec_Reader_Stamp c) [.ptr (.stk j) 0] ⟨S, H⟩ K := by
  intro j r S H K hj hr hK
  have hlt := stkj_lt hj
  simp only [C_rec_Reader_Stamp, A_, simprocAttr, ne_eq, (U_rec_Reader_Stamp _).1]
  refine h0 j r _ _ _ (stkj_app hj) hr ?_
  rw [setj_app hlt]
  obtain ⟨S', hS, hl⟩ := set_len (S := S) (j := j) (x := rdc (numR r).2)
  have hj2 : S'[j]? = some (rdc (numR r).2) := by rw [← hS]; exact stkj_set hj
  simp only [hS, hl, A_, simprocAttr, ne_eq, (U_rec_Reader_Stamp _).1]
  refine h1 _ (numR_lt r) _ _ _ ?_
  unfold stampR at hK
  cases hu : (unpackS (numR r).1).2 with
  | true =>
    rw [hu, if_pos rfl, hS] at hK
    simp only [A_, simprocAttr, ne_eq, (U_rec_Reader_Stamp _).1]
    exact hK
  | false =>
    have hz : (unpackS (numR r).1).1 = ⟨0, 0⟩ := by
      unfold unpackS at hu ⊢
      split at hu
      · cases hu
      · rename_i h; rw [if_neg h]
    rw [hu, if_neg (by simp)] at hK
    simp only [A_, simprocAttr, ne_eq, (U_rec_Reader_Stamp _).1]
    refine h2 j _ _ _ _ (stkj_app hj2) (numR_ok hr) ?_
    rw [setj_app (stkj_lt hj2)]
    obtain ⟨S2, hS2, hl2⟩ := set_len (S := S') (j := j) (x := rdc none)
    have e : S.set j (rdc none) = S2 := by rw [← hS2, ← hS, List.set_set]
    rw [e] at hK
    simp only [hS2, hl2, hz, A_, simprocAttr, ne_eq, (U_rec_Reader_Stamp _).1]
    exact hK
end Go.AM
namespace Go.AM
open Go
set_option maxRecDepth 20000
def cmpK (a b : Key) : Int := Lib.compareBytes a.b b.b
def withinK (k a b : Key) : Bool := decide (0 ≤ cmpK k a) && (decide (b = key0) || decide (cmpK k b < 0))
end Go.AM
namespace Go.AM
open Go
set_option maxRecDepth 20000
def cntK (k : Key) : List Key → Nat
  | [] => 0
  | p :: l => (if cmpK p k ≤ 0 then 1 else 0) + cntK k l
end Go.AM
namespace Go.AM
open Go
set_option maxRecDepth 20000
end Go.AM
namespace Go.AM
open Go
set_option maxRecDepth 20000
end Go.AM
namespace Go.AM
open Go
set_option maxRecDepth 20000
def aboveK (l : List Key) (a : Key) (i : Nat) : Bool := match l[i]? with
  | some p => decide (0 < cmpK p a)
  | none => true
def belowK (l : List Key) (b : Key) (i : Nat) : Bool := decide (i = 0) || decide (b = key0) || (match l[i - 1]? with
  | some p => decide (cmpK p b < 0)
  | none => true)
def covUp (l : List Key) (a b : Key) (n : Nat) : List Nat := (List.range n).filter fun i => aboveK l a i && belowK l b i
def coverK (l : List Key) (a b : Key) : List Nat := if b ≠ key0 ∧ cmpK b a ≤ 0 then [] else covUp l a b (l.length + 1)
end Go.AM
namespace Go.AM
open Go
set_option maxRecDepth 20000
def Steps (c : List Nat) : Prop := ∀ i, 0 < i → (h : i < c.length) → c[i] = c[i - 1] + 1
structure WholeP (pts : List Key) (a b fr to : Key) : Prop where
  good : ∀ k, goodR k = true → goodK k = true
  lt : cntK a pts ≤ pts.length
  mono : cmpK a b ≤ 0 → cntK a pts ≤ cntK b pts
  cons : Steps (coverK pts fr to)
  small : ∀ x ∈ coverK pts fr to, x ≤ pts.length
  mem : withinK a fr to = true → cntK a pts ∈ coverK pts fr to
end Go.AM
namespace Go.AM
open Go
theorem cb_flip : ∀ (x y : List UInt8), Lib.compareBytes y x = - Lib.compareBytes x y
  | [], [] => rfl
  | [], _ :: _ => rfl
  | _ :: _, [] => rfl
  | a :: x, b :: y => by
    simp only [Lib.compareBytes]
    by_cases h1 : a < b
    · have h2 : ¬ b < a := fun h => absurd (UInt8.lt_trans h1 h) (UInt8.lt_irrefl _)
      simp [h1, h2]
    · by_cases h2 : b < a
      · simp [h1, h2]
      · simp only [h1, h2, if_false]; exact cb_flip x y
theorem cmp_flip (a b : Key) : cmpK b a = - cmpK a b := cb_flip _ _
theorem goodL_true : ∀ {l : List UInt8}, goodL true l = true → l = List.replicate l.length 0
  | [], _ => rfl
  | x :: l, h => by
    simp only [goodL] at h
    by_cases hx : x = 0
    · rw [if_pos hx] at h
      subst hx
      rw [List.length_cons, List.replicate_succ, ← goodL_true h]
    · rw [if_neg hx] at h; simp at h
theorem goodL_split : ∀ {l : List UInt8}, goodL false l = true → ∃ m, l = l.takeWhile (· != 0) ++ List.replicate m 0
  | [], _ => ⟨0, rfl⟩
  | x :: l, h => by
    simp only [goodL] at h
    by_cases hx : x = 0
    · rw [if_pos hx] at h
      subst hx
      refine ⟨l.length + 1, ?_⟩
      rw [List.replicate_succ, ← goodL_true h]; simp
    · rw [if_neg hx] at h
      obtain ⟨m, hm⟩ := goodL_split (l := l) (by simpa using h)
      refine ⟨m, ?_⟩
      rw [List.takeWhile_cons]
      have : (x != 0) = true := by simpa using hx
      rw [this]
      simp only [if_true, List.cons_append]
      rw [← hm]
theorem good_R {k : Key} (h : goodR k = true) : goodK k = true := by
  unfold goodR at h
  rw [Bool.and_eq_true] at h
  obtain ⟨h1, h2⟩ := h
  have h2 : k.b[0]'(by rw [k.h]; omega) ≠ 0 := by simpa using h2
  obtain ⟨m, hm⟩ := goodL_split h1
  have hne : textOf k ≠ [] := by
    unfold textOf
    intro e
    rw [e, List.nil_append] at hm
    apply h2
    have : ∀ (l : List UInt8) (hl : 0 < l.length), l = List.replicate m 0 → l[0] = 0 := by
      intro l hl e; subst e; simp
    exact this _ _ hm
  have hpad : padK (textOf k) = k := by
    apply Key.ext'
    show padB (textOf k) = k.b
    have hl := text_len k
    unfold padB
    rw [List.take_of_length_le hl]
    have hlen : (textOf k).length + m = 16 := by
      have := congrArg List.length hm
      rw [k.h, List.length_append, List.length_replicate] at this
      exact this.symm
    rw [show 16 - (textOf k).length = m by omega]
    exact hm.symm
  unfold goodK
  simp [hne, hpad]
end Go.AM
namespace Go.AM
open Go
set_option maxRecDepth 20000
theorem goodL_zeros : ∀ (e : Bool) (n : Nat), goodL e (List.replicate n 0) = true
  | e, 0 => by cases e <;> rfl
  | e, n + 1 => by
    rw [List.replicate_succ, goodL, if_pos rfl]; exact goodL_zeros true n
theorem goodL_text : ∀ (t : List UInt8) (n : Nat), (0 : UInt8) ∉ t → goodL false (t ++ List.replicate n 0) = true
  | [], n, _ => goodL_zeros false n
  | x :: t, n, h => by
    have hx : x ≠ 0 := fun e => h (by rw [e]; simp)
    rw [List.cons_append, goodL, if_neg hx]
    exact goodL_text t n (fun m => h (List.mem_cons_of_mem _ m))
theorem goodRK (k : Key) : goodR k = goodK k := by
  cases h : goodK k with
  | false =>
    cases h2 : goodR k with
    | false => rfl
    | true => rw [good_R h2] at h; cases h
  | true =>
    unfold goodK at h
    simp only [Bool.and_eq_true, decide_eq_true_eq] at h
    obtain ⟨h1, h2⟩ := h
    have hb : k.b = textOf k ++ List.replicate (16 - (textOf k).length) 0 := by
      have : k.b = padB (textOf k) := (congrArg Key.b h2).symm
      rw [padB, List.take_of_length_le (text_len k)] at this
      exact this
    unfold goodR
    have hg : goodL false k.b = true := by rw [hb]; exact goodL_text _ _ (text_nz k)
    rw [hg, Bool.true_and, decide_eq_true_eq]
    intro e
    apply h1
    unfold textOf
    cases hk : k.b with
    | nil => rfl
    | cons x l =>
      have : x = 0 := by simpa [hk] using e
      rw [List.takeWhile_cons, if_neg (by simp [this])]
def GoodWS (C : CallW) (f : FuncId) : Prop := ∀ (l : List Wr) S H (K : AV → St → Prop), l.length ≤ 9223372036854775807 → (∀ G, K (.bool (sgood [] l)) ⟨S, H ++ G⟩) → C (.fn f) [lstW l] ⟨S, H⟩ K
set_option maxHeartbeats 8000000 in
theorem store_Good_spec {C : CallW} (hC : LeC C C) (P : Program) {c : Nat → FuncId} (h0 : BoolK goodK C (c 0)) : ∀ (l : List Wr) S H (K : AV → St → Prop), l.length ≤ 9223372036854775807 → (∀ G, K (.bool (sgood [] l)) ⟨S, H ++ G⟩) → runL C P (C_store_Good c) [lstW l] ⟨S, H⟩ K := by
  intro l S H K hl hK
  simp only [lstW, C_store_Good, A_, simprocAttr, ne_eq, (U_store_Good _).1]
  refine loop_rule hC (α := Nat) (fun a => l.length - a) (fun a => [.undef, .undef, .undef, .map H.length, .undef, .undef, .undef, .list .sh 18 (l.map wA), .s (.int .i64 l.length), .s (.int .i64 a), .undef, .undef, .undef, .undef, .undef, .undef, .undef, .undef, .undef, .undef, .undef, .undef, .undef, .undef, .undef, .undef, .undef, .undef, .undef, .undef, .undef, .undef, .undef, .undef, .undef, .undef, .undef, .undef, .undef, .undef, .undef, .undef]) (fun _ => S) (fun a => H ++ [.map (seenE ((l.take a).map Wr.key)) a]) (fun a => a ≤ l.length ∧ sgood [] l = sgood ((l.take a).map Wr.key) (l.drop a)) 0 ⟨by simp, by simp⟩ rfl (by simp) rfl (fun a _ => by simp [AV.under, AV.under.go]) ?_
  rintro i ⟨hi, hinv⟩ ih
  by_cases h16 : i < l.length
  · have hlt : ((i : Int) < (l.length : Int)) := by omega
    have hw : IntKind.i64.wrap ((i : Int) + 1) = (i : Int) + 1 := wrap_i64 (by omega) (by omega)
    have htk : (l.take (i + 1)).map Wr.key = (l.take i).map Wr.key ++ [(l[i]).key] := by rw [List.take_succ_eq_append_getElem h16, List.map_append]; rfl
    rw [List.drop_eq_getElem_cons h16, sgood, ← htk] at hinv
    simp only [A_, simprocAttr, ne_eq, (U_store_Good _).1, hlt, h16]
    refine h0 _ _ _ _ ?_
    cases e1 : goodK (l[i]).key with
    | false =>
      rw [if_pos e1] at hinv
      rw [hinv] at hK
      simp only [A_, simprocAttr, ne_eq, (U_store_Good _).1]
      exact hK _
    | true =>
      rw [if_neg (by simp [e1])] at hinv
      simp only [A_, simprocAttr, ne_eq, (U_store_Good _).1, look_seen]
      by_cases e2 : (l[i]).key ∈ (l.take i).map Wr.key
      · rw [if_pos e2] at hinv
        rw [hinv] at hK
        simp only [A_, simprocAttr, ne_eq, (U_store_Good _).1, e2]
        exact hK _
      · rw [if_neg e2] at hinv
        have hup := upd_seen (S := S ++ [wc l[i]]) (H := H) (n := i) e2 (by simp; omega)
        rw [← htk] at hup
        by_cases e3 : 200 < (l[i]).val.length
        · have e3' : ((200 : Int) < ((l[i]).val.length : Int)) := by omega
          rw [if_pos e3] at hinv
          rw [hinv] at hK
          simp only [A_, simprocAttr, ne_eq, (U_store_Good _).1, e2, e3']
          exact hK _
        · have e3' : ¬ ((200 : Int) < ((l[i]).val.length : Int)) := by omega
          rw [if_neg e3] at hinv
          cases e4 : (l[i]).gone with
          | false =>
            rw [if_neg (by simp [e4])] at hinv
            simp only [A_, simprocAttr, ne_eq, (U_store_Good _).1, e2, e3', e4, hup, hw]
            exact ih (i + 1) _ _ _ (by omega) ⟨by omega, hinv⟩ rfl (by simp) rfl
          | true =>
            by_cases e5 : (l[i]).val = []
            · rw [if_neg (by simp [e5])] at hinv
              have e5' := eq_true e5
              simp only [A_, simprocAttr, ne_eq, (U_store_Good _).1, e2, e3', e4, e5', hup, hw]
              exact ih (i + 1) _ _ _ (by omega) ⟨by omega, hinv⟩ rfl (by simp) rfl
            · rw [if_pos ⟨e4, e5⟩] at hinv
              rw [hinv] at hK
              simp only [A_, simprocAttr, ne_eq, (U_store_Good _).1, e2, e3', e4, e5]
              exact hK _
  · have hlt : ¬ ((i : Int) < (l.length : Int)) := by omega
    rw [List.drop_of_length_le (by omega)] at hinv
    rw [hinv] at hK
    simp only [A_, simprocAttr, ne_eq, (U_store_Good _).1, hlt]
    exact hK _
end Go.AM
namespace Go.AM
open Go
set_option maxRecDepth 20000
theorem drop17_wc (w : Wr) : (wc w).drop 17 = [.s (.bool w.gone)] := by rw [wc, show (17 : Nat) = (bs w.key.b).length + 1 by rw [kc_length], List.drop_append]; simp
def mayW (least : Nat) (l : List Wr) : Bool := decide (least ≤ l.length) && decide (l.length ≤ 16) && sgood [] l
set_option maxHeartbeats 16000000 in
theorem ref10_MayWrites_spec {C : CallW} (hC : LeC C C) (P : Program) {c : Nat → FuncId} (h0 : BoolK goodR C (c 0)) : ∀ (l : List Wr) (least : Nat) S H (K : AV → St → Prop), l.length ≤ 9223372036854775807 → K (.bool (mayW least l)) ⟨S, H⟩ → runL C P (C_hourglassref10_MayWrites c) [lstW l, .s (.int .i64 least)] ⟨S, H⟩ K := by
  intro l least S H K hl hK
  unfold mayW at hK
  by_cases hx1 : l.length < least
  · have hx1' : ((l.length : Int) < (least : Int)) := by omega
    rw [show decide (least ≤ l.length) = false by simp; omega, Bool.false_and, Bool.false_and] at hK
    simp only [lstW, C_hourglassref10_MayWrites, A_, simprocAttr, ne_eq, (U_hourglassref10_MayWrites _).1, hx1']
    exact hK
  have hx1' : ¬ ((l.length : Int) < (least : Int)) := by omega
  rw [show decide (least ≤ l.length) = true by simp; omega, Bool.true_and] at hK
  by_cases hx2 : 16 < l.length
  · have hx2' : ((16 : Int) < (l.length : Int)) := by omega
    rw [show decide (l.length ≤ 16) = false by simp; omega, Bool.false_and] at hK
    simp only [lstW, C_hourglassref10_MayWrites, A_, simprocAttr, ne_eq, (U_hourglassref10_MayWrites _).1, hx1', hx2']
    exact hK
  have hx2' : ¬ ((16 : Int) < (l.length : Int)) := by omega
  rw [show decide (l.length ≤ 16) = true by simp; omega, Bool.true_and] at hK
  simp only [lstW, C_hourglassref10_MayWrites, A_, simprocAttr, ne_eq, (U_hourglassref10_MayWrites _).1, hx1', hx2']
  refine loop_rule hC (α := Nat) (fun a => l.length - a) (fun a => [.list .sh 18 (l.map wA), .undef, .undef, .undef, .undef, .s (.int .i64 a), .undef, .undef, .undef, .undef, .undef, .undef, .undef, .undef, .undef, .undef, .undef, .undef, .undef, .undef, .undef, .undef, .undef, .undef, .undef, .undef, .undef, .undef, .undef, .undef, .undef, .undef, .undef, .undef, .undef, .undef, .undef, .undef, .undef, .undef, .undef, .undef, .undef, .undef, .undef, .undef, .undef, .undef, .undef, .undef, .undef, .undef, .undef, .undef, .undef, .undef, .undef, .undef, .undef, .undef, .undef, .undef, .undef, .undef, .undef, .undef, .undef, .undef, .undef]) (fun _ => S) (fun _ => H) (fun a => a ≤ l.length ∧ sgood [] l = sgood ((l.take a).map Wr.key) (l.drop a)) 0 ⟨by simp, by simp⟩ rfl (by simp) rfl (fun a _ => by simp [AV.under, AV.under.go]) ?_
  rintro i ⟨hi, hinv⟩ ih
  by_cases h16 : i < l.length
  case neg =>
    have hlt : ¬ ((i : Int) < (l.length : Int)) := by omega
    rw [List.drop_of_length_le (by omega)] at hinv
    rw [hinv] at hK
    simp only [A_, simprocAttr, ne_eq, (U_hourglassref10_MayWrites _).1, hlt]
    exact hK
  have hlt : ((i : Int) < (l.length : Int)) := by omega
  have hw : IntKind.i64.wrap ((i : Int) + 1) = (i : Int) + 1 := wrap_i64 (by omega) (by omega)
  have htk : (l.take (i + 1)).map Wr.key = (l.take i).map Wr.key ++ [(l[i]).key] := by rw [List.take_succ_eq_append_getElem h16, List.map_append]; rfl
  rw [List.drop_eq_getElem_cons h16, sgood, ← htk] at hinv
  simp only [A_, simprocAttr, ne_eq, (U_hourglassref10_MayWrites _).1, hlt, h16]
  refine h0 _ _ _ _ ?_
  rw [goodRK]
  cases e1 : goodK (l[i]).key with
  | false =>
    rw [if_pos e1] at hinv
    rw [hinv] at hK
    simp only [A_, simprocAttr, ne_eq, (U_hourglassref10_MayWrites _).1]
    exact hK
  | true =>
    rw [if_neg (by simp [e1])] at hinv
    by_cases e3 : 200 < (l[i]).val.length
    · have e3' : ((200 : Int) < ((l[i]).val.length : Int)) := by omega
      have hf : sgood [] l = false := by rw [hinv]; simp [e3]
      rw [hf] at hK
      simp only [A_, simprocAttr, ne_eq, (U_hourglassref10_MayWrites _).1, h16, e3']
      exact hK
    have e3' : ¬ ((200 : Int) < ((l[i]).val.length : Int)) := by omega
    rw [if_neg e3] at hinv
    by_cases e4 : (l[i]).gone = true ∧ (l[i]).val ≠ []
    · have hf : sgood [] l = false := by rw [hinv]; simp [e4]
      rw [hf] at hK
      have e5 := e4.2
      simp only [A_, simprocAttr, ne_eq, (U_hourglassref10_MayWrites _).1, h16, e3', drop17_wc, e4.1, e5]
      exact hK
    rw [if_neg e4] at hinv
    have e4' : ((l[i]).gone = false) ∨ ((l[i]).gone = true ∧ ((l[i]).val = []) = True) := by
      cases hg : (l[i]).gone with
      | false => exact .inl rfl
      | true => exact .inr ⟨rfl, eq_true (Classical.byContradiction fun h => e4 ⟨hg, h⟩)⟩
    rcases e4' with hg | ⟨hg, hv⟩
    all_goals
      first | simp only [A_, simprocAttr, ne_eq, (U_hourglassref10_MayWrites _).1, h16, e3', drop17_wc, hg, hv] | simp only [A_, simprocAttr, ne_eq, (U_hourglassref10_MayWrites _).1, h16, e3', drop17_wc, hg]
      refine loop_rule hC (α := Nat) (fun a => i - a) (fun a => [.list .sh 18 (l.map wA), .undef, .undef, .undef, .undef, .s (.int .i64 i), .s (.int .i64 a), .undef, .undef, .undef, .undef, .undef, .undef, .undef, .undef, .undef, .undef, .undef, .undef, .undef, .undef, .undef, .undef, .undef, .undef, .undef, .undef, .undef, .undef, .undef, .undef, .undef, .undef, .undef, .undef, .undef, .undef, .undef, .undef, .undef, .undef, .undef, .undef, .undef, .undef, .undef, .undef, .undef, .undef, .undef, .undef, .undef, .undef, .undef, .undef, .undef, .undef, .undef, .undef, .undef, .undef, .undef, .undef, .undef, .undef, .undef, .undef, .undef, .undef]) (fun _ => S) (fun _ => H) (fun a => a ≤ i ∧ (l[i]).key ∉ (l.take a).map Wr.key) 0 ⟨by simp, by simp⟩ rfl (by simp) rfl (fun a _ => by simp [AV.under, AV.under.go]) ?_
      rintro k ⟨hk, hkin⟩ ih2
      by_cases hki : k < i
      · have hlt2 : ((k : Int) < (i : Int)) := by omega
        have hkl : k < l.length := by omega
        have hw2 : IntKind.i64.wrap ((k : Int) + 1) = (k : Int) + 1 := wrap_i64 (by omega) (by omega)
        by_cases hke : (l[k]).key = (l[i]).key
        · have hm : (l[i]).key ∈ (l.take i).map Wr.key := List.mem_map.2 ⟨l[k], List.mem_take_iff_getElem.2 ⟨k, by omega, rfl⟩, hke⟩
          rw [if_pos hm] at hinv
          rw [hinv] at hK
          have hke' := eq_true hke
          simp only [A_, simprocAttr, ne_eq, (U_hourglassref10_MayWrites _).1, h16, hlt2, hkl, hke']
          exact hK
        · have hm : (l[i]).key ∉ (l.take (k + 1)).map Wr.key := by
            rw [List.take_succ_eq_append_getElem hkl, List.map_append]
            intro hh
            rcases List.mem_append.1 hh with h | h
            · exact hkin h
            · simp at h; exact hke h.symm
          simp only [A_, simprocAttr, ne_eq, (U_hourglassref10_MayWrites _).1, h16, hlt2, hkl, hke, hw2]
          exact ih2 (k + 1) _ _ _ (by omega) ⟨by omega, hm⟩ rfl (by simp) rfl
      · have hlt2 : ¬ ((k : Int) < (i : Int)) := by omega
        have hki' : k = i := by omega
        rw [hki'] at hkin
        rw [if_neg hkin] at hinv
        simp only [A_, simprocAttr, ne_eq, (U_hourglassref10_MayWrites _).1, hlt2, hw]
        exact ih (i + 1) _ _ _ (by omega) ⟨by omega, hinv⟩ rfl (by simp) rfl
theorem ref10_Writes_spec {C : CallW} (hC : LeC C C) (P : Program) : ∀ (a b : List Wr) S H (K : AV → St → Prop), a.length ≤ 9223372036854775807 → b.length ≤ 9223372036854775807 → K (.bool (decide (a = b))) ⟨S, H⟩ → runL C P C_hourglassref10_Writes [lstW a, lstW b] ⟨S, H⟩ K := by
  intro a b S H K ha hb hK
  by_cases hl : a.length = b.length
  case neg =>
    have hl' : ¬ ((a.length : Int) = (b.length : Int)) := by omega
    rw [decide_eq_false (fun e => hl (by rw [e]))] at hK
    simp only [lstW, C_hourglassref10_Writes, A_, simprocAttr, ne_eq, U_hourglassref10_Writes.1, hl']
    exact hK
  have hl' := eq_true (show ((a.length : Int) = (b.length : Int)) by omega)
  simp only [lstW, C_hourglassref10_Writes, A_, simprocAttr, ne_eq, U_hourglassref10_Writes.1, hl']
  refine loop_rule hC (α := Nat) (fun i => a.length - i) (fun i => [.list .sh 18 (a.map wA), .list .sh 18 (b.map wA), .undef, .undef, .undef, .s (.int .i64 i), .undef, .undef, .undef, .undef, .undef, .undef, .undef, .undef, .undef, .undef, .undef, .undef, .undef, .undef, .undef, .undef, .undef, .undef, .undef, .undef]) (fun _ => S) (fun _ => H) (fun i => i ≤ a.length ∧ decide (a = b) = decide (a.drop i = b.drop i)) 0 ⟨by simp, by simp⟩ rfl (by simp) rfl (fun a _ => by simp [AV.under, AV.under.go]) ?_
  rintro i ⟨hi, hinv⟩ ih
  by_cases h16 : i < a.length
  · have hlt : ((i : Int) < (a.length : Int)) := by omega
    have h16' : i < b.length := by omega
    have hw : IntKind.i64.wrap ((i : Int) + 1) = (i : Int) + 1 := wrap_i64 (by omega) (by omega)
    rw [List.drop_eq_getElem_cons h16, List.drop_eq_getElem_cons h16'] at hinv
    by_cases he : a[i] = b[i]
    · have he' := eq_true he
      rw [he] at hinv
      simp only [List.cons.injEq, true_and] at hinv
      simp only [A_, simprocAttr, ne_eq, U_hourglassref10_Writes.1, hlt, h16, h16', he', hw]
      exact ih (i + 1) _ _ _ (by omega) ⟨by omega, hinv⟩ rfl (by simp) rfl
    · simp only [List.cons.injEq, he, false_and, decide_false] at hinv
      rw [hinv] at hK
      simp only [A_, simprocAttr, ne_eq, U_hourglassref10_Writes.1, hlt, h16, h16', he]
      exact hK
  · have hlt : ¬ ((i : Int) < (a.length : Int)) := by omega
    rw [List.drop_of_length_le (by omega), List.drop_of_length_le (by omega), decide_eq_true rfl] at hinv
    rw [hinv] at hK
    simp only [A_, simprocAttr, ne_eq, U_hourglassref10_Writes.1, hlt]
    exact hK
end Go.AM
namespace Go.AM
open Go
set_option maxRecDepth 20000
def putW (w : Wr) : List UInt8 := w.key.b ++ ((if w.gone then 1 else 0) :: (putN w.val.length ++ w.val))
def putWs (l : List Wr) : List UInt8 := putN l.length ++ l.flatMap putW
theorem flatW_take {l : List Wr} {i : Nat} (h : i < l.length) : (l.take (i + 1)).flatMap putW = (l.take i).flatMap putW ++ putW l[i] := by
  rw [List.take_succ_eq_append_getElem h, List.flatMap_append]; simp
theorem putN_flag (g : Bool) : putN (if g then 1 else 0) = [if g then 1 else 0] := by cases g <;> exact putN_lt (by decide)
theorem group_any {e : ET} (he : e.ag = false) (hc : e.c = 1) : ∀ (n : Nat) (cs : List AV), cs.length = n → groupL e n cs = cs
  | 0, cs, h => by cases cs <;> simp_all [groupL]
  | n + 1, [], h => by simp at h
  | n + 1, c :: cs, h => by
    simp only [groupL, packL, hc, he, List.take_succ_cons, List.take_zero, List.drop_succ_cons, List.drop_zero, List.getD_cons_zero]
    rw [group_any he hc n cs (by simpa using h)]
theorem elems_key {σ : St} {r : Ref} {k : Key} {rest : List AV} (h : boxOf σ r = some (bs k.b ++ rest)) : elemsL eB (.row r 0 16 16) σ = some (bs k.b) := by
  unfold elemsL
  have hl : 0 + 16 * 1 ≤ (bs k.b ++ rest).length := by simp [kc_length]
  have e : (false || (1 : Nat) == 1) = true := rfl
  simp only [eB, e, if_true, readCells, h, Option.bind_some, Nat.mul_one] at hl ⊢
  rw [if_pos ⟨hl, .inl (by omega)⟩]
  have : (((bs k.b ++ rest).drop 0).take 16).map AV.look = bs k.b := by rw [List.drop_zero, take_kc, map_look_bs]
  simp only [Option.map_some, Nat.zero_add, Nat.mul_one, this]
  rw [group_any rfl rfl 16 _ (kc_length k)]
theorem app_bu2 {b d : List UInt8} {x : AV} {σ : St} (hs : srcL false x = true) (he : elemsL eB x σ = some (bs d)) (hb : b.length + d.length ≤ 1000000000000) : appendL eB false (.list .uniq 1 (bs b)) x σ = some (.list .uniq 1 (bs (b ++ d)), σ) := by
  have h := app_bu (b := b) (d := d) (fl2 := .sh) (σ := σ) hb
  have he2 : elemsL eB (.list .sh 1 (bs d)) σ = some (bs d) := by simp [elemsL]
  rw [← h]
  unfold appendL
  have hs2 : srcL false (.list .sh 1 (bs d)) = true := rfl
  rw [hs, hs2, he, he2]
theorem storeL_last {S : List (List AV)} {H G : List HObj} {n : Nat} {old vs : List AV} (h : old.length = n) (hv : vs.length = n) (hn : 2 ≤ n) (hu : AV.under.go 0 vs = true) : storeL n (.ptr (.heap (H.length + G.length)) 0) (.agg vs) ⟨S, H ++ (G ++ [.cells old])⟩ = some ⟨S, H ++ (G ++ [.cells vs])⟩ := by
  have := storeL_heap (S := S) (H := H) (l := G ++ [.cells old]) (j := G.length) (n := n) (vs := vs) (by simp) (by simp [List.getD, hcells, h]) hv hn hu
  rw [this]
  simp
def PutWS (C : CallW) (f : FuncId) : Prop := ∀ (a : AV) (b : List UInt8) (l : List Wr) S H (K : AV → St → Prop), BA a b → b.length ≤ 1000000 → l.length ≤ 1000 → (∀ w ∈ l, w.val.length ≤ 100000) → (∀ G, K (.list .uniq 1 (bs (b ++ putWs l))) ⟨S, H ++ G⟩) → C (.fn f) [a, lstW l] ⟨S, H⟩ K
theorem flat_len {l : List Wr} (hv : ∀ w ∈ l, w.val.length ≤ 100000) : (l.flatMap putW).length ≤ 100027 * l.length := by
  induction l with
  | nil => simp
  | cons w l ih =>
    have h1 := ih (fun x hx => hv x (List.mem_cons_of_mem _ hx))
    have h2 := hv w (List.mem_cons_self ..)
    have h3 := putN_len10 (v := w.val.length) (by omega)
    rw [List.flatMap_cons, List.length_append, List.length_cons]
    have : (putW w).length ≤ 100027 := by
      unfold putW
      rw [List.length_append, w.key.h, List.length_cons, List.length_append]; omega
    omega
set_option maxHeartbeats 16000000 in
theorem rec_PutWrites_spec {C : CallW} (hC : LeC C C) (P : Program) {c : Nat → FuncId} (h0 : NumS C (c 0)) : ∀ (b : List UInt8) (l : List Wr) S H (K : AV → St → Prop), b.length ≤ 1000000 → l.length ≤ 1000 → (∀ w ∈ l, w.val.length ≤ 100000) → (∀ G, K (.list .uniq 1 (bs (b ++ putWs l))) ⟨S, H ++ G⟩) → runL C P (C_rec_PutWrites c) [.list .sh 1 (bs b), lstW l] ⟨S, H⟩ K := by
  intro b l S H K hb hl hv hK
  simp only [lstW, C_rec_PutWrites, A_, simprocAttr, ne_eq, (U_rec_PutWrites _).1]
  refine h0 _ b l.length _ _ _ .l (by omega) (by omega) ?_
  have hp := putN_len10 (v := l.length) (by omega)
  simp only [A_, simprocAttr, ne_eq, (U_rec_PutWrites _).1]
  refine loop_rule hC (α := Nat × List HObj) (fun a => l.length - a.1) (fun a => [.list .uniq 1 (bs (b ++ (putN l.length ++ (l.take a.1).flatMap putW))), .undef, .undef, .undef, .undef, .undef, .undef, .undef, .undef, .undef, .undef, .list .sh 18 (l.map wA), .s (.int .i64 l.length), .s (.int .i64 a.1), .undef, .undef, .undef, .undef, .undef, .undef, .undef, .undef, .undef, .undef, .undef, .undef, .undef, .undef, .undef, .undef, .undef, .undef, .undef, .undef, .undef, .undef, .undef]) (fun _ => S) (fun a => H ++ a.2) (fun a => a.1 ≤ l.length) (0, []) (by simp) (by simp only [List.take_zero, List.flatMap_nil, List.append_nil]; rfl) (by simp) (by simp) (fun a _ => by simp [AV.under, AV.under.go]) ?_
  rintro ⟨i, G⟩ hi ih
  dsimp only at hi ih ⊢
  by_cases h16 : i < l.length
  · have hlt : ((i : Int) < (l.length : Int)) := by omega
    have hw : IntKind.i64.wrap ((i : Int) + 1) = (i : Int) + 1 := wrap_i64 (by omega) (by omega)
    have hcl : (b ++ (putN l.length ++ (l.take i).flatMap putW)).length ≤ 200000000 := by
      have := flat_len (l := l.take i) (fun w hw => hv w (List.mem_of_mem_take hw))
      rw [List.length_take] at this
      simp only [List.length_append]
      have : 100027 * min i l.length ≤ 100027 * 1000 := Nat.mul_le_mul_left _ (by omega)
      omega
    have hvi := hv l[i] (List.getElem_mem h16)
    have hlen1 : (b ++ (putN l.length ++ (l.take (i + 1)).flatMap putW)) = (b ++ (putN l.length ++ (l.take i).flatMap putW)) ++ ((l[i]).key.b ++ ((if (l[i]).gone then 1 else 0) :: (putN (l[i]).val.length ++ (l[i]).val))) := by
      rw [flatW_take h16, putW]; simp only [List.append_assoc]
    generalize hcur : b ++ (putN l.length ++ (l.take i).flatMap putW) = cur at hcl hlen1 ⊢
    have hb1 : boxOf ⟨S, H ++ (G ++ [HObj.cells (wc l[i])])⟩ (.heap (H.length + G.length)) = some (wc l[i]) := by
      rw [boxOf_heap, app_get]; simp [cellsOf?]
    have hk := (l[i]).key.h
    have happ := app_bu2 (b := cur) (d := (l[i]).key.b) (x := .row (.heap (H.length + G.length)) 0 16 16) (σ := ⟨S, H ++ (G ++ [HObj.cells (wc l[i])])⟩) rfl (elems_key (rest := [.s (.str (l[i]).val), .s (.bool (l[i]).gone)]) (by rw [hb1]; rfl)) (by omega)
    simp only [eB] at happ
    have hbx : (H ++ (G ++ [HObj.cells (wc l[i])]))[H.length + G.length]? = some (.cells (wc l[i])) := by rw [app_get]; simp
    have hst := storeL_last (S := S) (H := H) (G := G) (n := 18) (old := bs key0.b ++ [.s (.str []), .s (.bool false)]) (vs := wc l[i]) rfl (wc_length _) (by omega) wc_under
    have hflag : ∀ (g : Bool), putN (if g = true then 1 else 0) = [if g = true then 1 else 0] := putN_flag
    cases hg : (l[i]).gone with
    | true =>
      rw [hg] at hlen1
      simp only [A_, simprocAttr, ne_eq, (U_rec_PutWrites _).1, hlt, h16, hst, happ, hg]
      refine h0 _ (cur ++ (l[i]).key.b) 1 _ _ _ .l (by simp; omega) (by omega) ?_
      have hf1 : putN 1 = [1] := putN_flag true
      have hp2 := putN_len10 (v := (l[i]).val.length) (by omega)
      rw [hf1]
      simp only [A_, simprocAttr, ne_eq, (U_rec_PutWrites _).1]
      refine h0 _ _ (l[i]).val.length _ _ _ .l (by simp; omega) (by omega) ?_
      have ha2 := app_bstr (b := cur ++ (l[i]).key.b ++ [1] ++ putN (l[i]).val.length) (d := (l[i]).val) (σ := ⟨S, H ++ (G ++ [HObj.cells (wc l[i])])⟩) (by simp; omega)
      simp only [eB, List.append_assoc, List.cons_append, List.nil_append] at ha2
      have hn2 : cur ++ ((l[i]).key.b ++ 1 :: (putN (l[i]).val.length ++ (l[i]).val)) = b ++ (putN l.length ++ (l.take (i + 1)).flatMap putW) := by
        rw [hlen1]; simp
      rw [hn2] at ha2
      simp only [A_, simprocAttr, ne_eq, (U_rec_PutWrites _).1, ha2, hw]
      exact ih (i + 1, G ++ [HObj.cells (wc l[i])]) _ _ _ (by dsimp only; omega) (by dsimp only; omega) rfl (by simp) (by simp)
    | false =>
      rw [hg] at hlen1
      simp only [A_, simprocAttr, ne_eq, (U_rec_PutWrites _).1, hlt, h16, hst, happ, hg]
      refine h0 _ (cur ++ (l[i]).key.b) 0 _ _ _ .l (by simp; omega) (by omega) ?_
      have hf1 : putN 0 = [0] := putN_flag false
      have hp2 := putN_len10 (v := (l[i]).val.length) (by omega)
      rw [hf1]
      simp only [A_, simprocAttr, ne_eq, (U_rec_PutWrites _).1]
      refine h0 _ _ (l[i]).val.length _ _ _ .l (by simp; omega) (by omega) ?_
      have ha2 := app_bstr (b := cur ++ (l[i]).key.b ++ [0] ++ putN (l[i]).val.length) (d := (l[i]).val) (σ := ⟨S, H ++ (G ++ [HObj.cells (wc l[i])])⟩) (by simp; omega)
      simp only [eB, List.append_assoc, List.cons_append, List.nil_append] at ha2
      have hn2 : cur ++ ((l[i]).key.b ++ 0 :: (putN (l[i]).val.length ++ (l[i]).val)) = b ++ (putN l.length ++ (l.take (i + 1)).flatMap putW) := by
        rw [hlen1]; simp
      rw [hn2] at ha2
      simp only [A_, simprocAttr, ne_eq, (U_rec_PutWrites _).1, ha2, hw]
      exact ih (i + 1, G ++ [HObj.cells (wc l[i])]) _ _ _ (by dsimp only; omega) (by dsimp only; omega) rfl (by simp) (by simp)
  · have hlt : ¬ ((i : Int) < (l.length : Int)) := by omega
    have : i = l.length := by omega
    subst this
    rw [List.take_length]
    unfold putWs at hK
    simp only [A_, simprocAttr, ne_eq, (U_rec_PutWrites _).1, hlt]
    exact hK _
end Go.AM
namespace Go.AM
open Go
set_option maxRecDepth 20000
theorem slc_rop {w : Wr} : sliceL (.arr 16 1) (.rop (wc w)) none none none = some (.list .sh 1 (bs w.key.b)) := by
  have h : 16 ≤ (wc w).length := by rw [wc_length]; omega
  have e : ((wc w).take 16).drop 0 = bs w.key.b := by rw [List.drop_zero, wc, take_kc]
  simp only [sliceL, bound, h, e]
  simp
def TxtS (C : CallW) (f : FuncId) : Prop := ∀ (a : AV) (b s : List UInt8) S H (K : AV → St → Prop), BA a b → b.length ≤ 1000000000 → s.length ≤ 1000000000 → K (.list .uniq 1 (bs (b ++ (putN s.length ++ s)))) ⟨S, H⟩ → C (.fn f) [a, .s (.str s)] ⟨S, H⟩ K
set_option maxHeartbeats 16000000 in
theorem ref14_PutWrites_spec {C : CallW} (hC : LeC C C) (P : Program) {c : Nat → FuncId} (h0 : PutS C (c 0)) (h1 : ∀ v : Bool, FnS C (c 1) [.s (.bool v)] (u8 (if v then 1 else 0))) (h2 : TxtS C (c 2)) : ∀ (b : List UInt8) (l : List Wr) S H (K : AV → St → Prop), b.length ≤ 1000000 → l.length ≤ 1000 → (∀ w ∈ l, w.val.length ≤ 100000) → K (.list .uniq 1 (bs (b ++ putWs l))) ⟨S, H⟩ → runL C P (C_hourglassref14_PutWrites c) [.list .sh 1 (bs b), lstW l] ⟨S, H⟩ K := by
  intro b l S H K hb hl hv hK
  have h1t : FnS C (c 1) [.s (.bool true)] (.s (.int .u8 1)) := h1 true
  have h1f : FnS C (c 1) [.s (.bool false)] (.s (.int .u8 0)) := h1 false
  have hc := wrap_u64n (n := l.length) (by omega)
  simp only [lstW, C_hourglassref14_PutWrites, A_, simprocAttr, ne_eq, (U_hourglassref14_PutWrites _).1, convL, hc]
  refine h0 _ b l.length _ _ _ .l (by omega) (by omega) ?_
  have hp := putN_len10 (v := l.length) (by omega)
  simp only [A_, simprocAttr, ne_eq, (U_hourglassref14_PutWrites _).1]
  refine loop_rule hC (α := Nat) (fun a => l.length - a) (fun a => [.list .uniq 1 (bs (b ++ (putN l.length ++ (l.take a).flatMap putW))), .list .sh 18 (l.map wA), .undef, .undef, .undef, .s (.int .i64 a), .undef, .undef, .undef, .undef, .undef, .undef, .undef, .undef, .undef, .undef, .undef, .undef, .undef, .undef, .undef, .undef, .undef, .undef, .undef, .undef, .undef, .undef, .undef, .undef, .undef, .undef, .undef, .undef, .undef, .undef, .undef, .undef, .undef, .undef]) (fun _ => S) (fun a => H) (fun a => a ≤ l.length) 0 (by simp) (by simp only [List.take_zero, List.flatMap_nil, List.append_nil]; rfl) (by simp) rfl (fun a _ => by simp [AV.under, AV.under.go]) ?_
  rintro i hi ih
  by_cases h16 : i < l.length
  · have hlt : ((i : Int) < (l.length : Int)) := by omega
    have hw : IntKind.i64.wrap ((i : Int) + 1) = (i : Int) + 1 := wrap_i64 (by omega) (by omega)
    have hcl : (b ++ (putN l.length ++ (l.take i).flatMap putW)).length ≤ 200000000 := by
      have := flat_len (l := l.take i) (fun w hw => hv w (List.mem_of_mem_take hw))
      rw [List.length_take] at this
      simp only [List.length_append]
      have : 100027 * min i l.length ≤ 100027 * 1000 := Nat.mul_le_mul_left _ (by omega)
      omega
    have hvi := hv l[i] (List.getElem_mem h16)
    have hlen1 : (b ++ (putN l.length ++ (l.take (i + 1)).flatMap putW)) = (b ++ (putN l.length ++ (l.take i).flatMap putW)) ++ ((l[i]).key.b ++ ((if (l[i]).gone then 1 else 0) :: (putN (l[i]).val.length ++ (l[i]).val))) := by
      rw [flatW_take h16, putW]; simp only [List.append_assoc]
    generalize hcur : b ++ (putN l.length ++ (l.take i).flatMap putW) = cur at hcl hlen1 ⊢
    have hk := (l[i]).key.h
    have happ := app_bu (b := cur) (d := (l[i]).key.b) (fl2 := .sh) (σ := ⟨S, H⟩) (by omega)
    simp only [eB] at happ
    cases hg : (l[i]).gone with
    | true =>
      rw [hg] at hlen1
      simp only [A_, simprocAttr, ne_eq, (U_hourglassref14_PutWrites _).1, hlt, h16, drop17_wc, slc_rop, happ, hg]
      refine h1t _ _ _ ?_
      have ha1 : appendL eB false (.list .uniq 1 (bs (cur ++ (l[i]).key.b))) (.list .full 1 [.s (.int .u8 1)]) ⟨S, H⟩ = some (.list .uniq 1 (bs (cur ++ (l[i]).key.b ++ [1])), ⟨S, H⟩) := app_b1 (c := 1) (.inl rfl) (by simp; omega)
      simp only [eB] at ha1
      simp only [A_, simprocAttr, ne_eq, (U_hourglassref14_PutWrites _).1, h16, ha1]
      refine h2 _ (cur ++ ((l[i]).key.b ++ [1])) (l[i]).val _ _ _ .l (by simp; omega) (by omega) ?_
      have hn2 : cur ++ ((l[i]).key.b ++ [1]) ++ (putN (l[i]).val.length ++ (l[i]).val) = b ++ (putN l.length ++ (l.take (i + 1)).flatMap putW) := by
        rw [hlen1]; simp
      rw [hn2]
      simp only [A_, simprocAttr, ne_eq, (U_hourglassref14_PutWrites _).1, hw]
      exact ih (i + 1) _ _ _ (by omega) (by omega) rfl (by simp) (by simp)
    | false =>
      rw [hg] at hlen1
      simp only [A_, simprocAttr, ne_eq, (U_hourglassref14_PutWrites _).1, hlt, h16, drop17_wc, slc_rop, happ, hg]
      refine h1f _ _ _ ?_
      have ha1 : appendL eB false (.list .uniq 1 (bs (cur ++ (l[i]).key.b))) (.list .full 1 [.s (.int .u8 0)]) ⟨S, H⟩ = some (.list .uniq 1 (bs (cur ++ (l[i]).key.b ++ [0])), ⟨S, H⟩) := app_b1 (c := 0) (.inl rfl) (by simp; omega)
      simp only [eB] at ha1
      simp only [A_, simprocAttr, ne_eq, (U_hourglassref14_PutWrites _).1, h16, ha1]
      refine h2 _ (cur ++ ((l[i]).key.b ++ [0])) (l[i]).val _ _ _ .l (by simp; omega) (by omega) ?_
      have hn2 : cur ++ ((l[i]).key.b ++ [0]) ++ (putN (l[i]).val.length ++ (l[i]).val) = b ++ (putN l.length ++ (l.take (i + 1)).flatMap putW) := by
        rw [hlen1]; simp
      rw [hn2]
      simp only [A_, simprocAttr, ne_eq, (U_hourglassref14_PutWrites _).1, hw]
      exact ih (i + 1) _ _ _ (by omega) (by omega) rfl (by simp) (by simp)
  · have hlt : ¬ ((i : Int) < (l.length : Int)) := by omega
    have : i = l.length := by omega
    subst this
    rw [List.take_length]
    unfold putWs at hK
    simp only [A_, simprocAttr, ne_eq, (U_hourglassref14_PutWrites _).1, hlt]
    exact hK
end Go.AM
namespace Go.AM
open Go
set_option maxRecDepth 20000
def wrR (r : Rd) : Wr × Rd :=
  (⟨(keyR r).1, (textR (mostR 200 (mostR 1 (keyR r).2).2).1 (mostR 200 (mostR 1 (keyR r).2).2).2).1, decide ((mostR 1 (keyR r).2).1 = 1)⟩, (textR (mostR 200 (mostR 1 (keyR r).2).2).1 (mostR 200 (mostR 1 (keyR r).2).2).2).2)
def wrsR : Nat → Rd → List Wr × Rd
  | 0, r => ([], r)
  | n + 1, r => ((wrR r).1 :: (wrsR n (wrR r).2).1, (wrsR n (wrR r).2).2)
def writesR (r : Rd) : List Wr × Rd :=
  ((wrsR (mostR 16 r).1 (mostR 16 r).2).1, if sgood [] (wrsR (mostR 16 r).1 (mostR 16 r).2).1 = true then (wrsR (mostR 16 r).1 (mostR 16 r).2).2 else none)
theorem wrR_ok {r : Rd} (h : rok r) : rok (wrR r).2 := textR_ok (mostR_ok (mostR_ok (keyR_ok h)))
theorem wrsR_ok : ∀ (n : Nat) {r : Rd}, rok r → rok (wrsR n r).2
  | 0, r, h => h
  | n + 1, r, h => wrsR_ok n (wrR_ok h)
theorem wrsR_len : ∀ (n : Nat) (r : Rd), (wrsR n r).1.length = n
  | 0, r => rfl
  | n + 1, r => by rw [wrsR, List.length_cons, wrsR_len n]
theorem writesR_ok {r : Rd} (h : rok r) : rok (writesR r).2 := by
  unfold writesR
  dsimp only
  split
  · exact wrsR_ok _ (mostR_ok h)
  · exact rok_none
theorem set_kc17 {k : Key} {a b x : AV} : (bs k.b ++ [a, b]).set 17 x = bs k.b ++ [a, x] := by
  rw [List.set_append_right _ _ (by rw [kc_length]; omega), kc_length]; rfl
theorem set_kc16 {k : Key} {a b x : AV} : (bs k.b ++ [a, b]).set 16 x = bs k.b ++ [x, b] := by
  rw [List.set_append_right _ _ (by rw [kc_length]; omega), kc_length]; rfl
def WritesS (C : CallW) (f : FuncId) : Prop := ∀ (j : Nat) (r : Rd) S H (K : AV → St → Prop), S[j]? = some (rdc r) → rok r → (∀ G, K (lstW (writesR r).1) ⟨S.set j (rdc (writesR r).2), H ++ G⟩) → C (.fn f) [.ptr (.stk j) 0] ⟨S, H⟩ K
set_option maxHeartbeats 16000000 in
theorem rec_Writes_spec {C : CallW} (hC : LeC C C) (hW : WkC C) (P : Program) {c : Nat → FuncId} (h0 : ∀ m : Nat, m < 9223372036854775808 → RdS C (c 0) [.s (.int .i64 m)] fun r => (.s (.int .i64 ((mostR m r).1 : Nat)), (mostR m r).2)) (h1 : RdS C (c 1) [] fun r => (.agg (bs (keyR r).1.b), (keyR r).2)) (h2 : ∀ n : Nat, RdS C (c 2) [.s (.int .i64 n)] fun r => (.s (.str (textR n r).1), (textR n r).2)) (h3 : GoodWS C (c 3)) (h4 : RdS C (c 4) [] fun _ => (.tup [], none)) :
    ∀ (j : Nat) (r : Rd) S H (K : AV → St → Prop), S[j]? = some (rdc r) → rok r → (∀ G, K (lstW (writesR r).1) ⟨S.set j (rdc (writesR r).2), H ++ G⟩) → runL C P (C_rec_Reader_Writes c) [.ptr (.stk j) 0] ⟨S, H⟩ (fun v s => ∃ b, (b = v ∨ WkL [v.sh] [b]) ∧ K b s) := by
  intro j r S H K hj hr hK
  have hjl := stkj_lt hj
  simp only [C_rec_Reader_Writes, A_, simprocAttr, ne_eq, (U_rec_Reader_Writes _).1]
  refine h0 16 (by omega) j r _ _ _ hj hr ?_
  simp only [A_, simprocAttr, ne_eq, (U_rec_Reader_Writes _).1]
  generalize hn : (mostR 16 r).1 = n
  have hn16 : n ≤ 16 := by rw [← hn]; exact mostR_le 16 r
  have hr1 : rok (mostR 16 r).2 := mostR_ok hr
  generalize hrr : (mostR 16 r).2 = r1 at hr1
  unfold writesR at hK
  rw [hn, hrr] at hK
  refine loop_rule hC (α := Nat × List Wr × Rd) (fun a => n - a.1) (fun a => [.ptr (.stk j) 0, .undef, .undef, slG 18 (a.2.1.map wA), .undef, .undef, .s (.int .i64 n), .s (.int .i64 a.1), .undef, .undef, .undef, .undef, .undef, .undef, .undef, .undef, .undef, .undef, .undef, .undef, .undef, .undef, .undef, .undef, .undef, .undef, .undef, .undef, .undef, .undef, .undef, .undef]) (fun a => S.set j (rdc a.2.2)) (fun a => H) (fun a => a.1 ≤ n ∧ rok a.2.2 ∧ a.2.1.length = a.1 ∧ wrsR n r1 = (a.2.1 ++ (wrsR (n - a.1) a.2.2).1, (wrsR (n - a.1) a.2.2).2)) (0, [], r1) ⟨by simp, hr1, rfl, by simp⟩ rfl (by simp [take_set]) rfl (fun a _ => by simp [AV.under, AV.under.go, slG_under]; omega) ?_
  rintro ⟨i, acc, q⟩ ⟨hi, hq, hal, hinv⟩ ih
  dsimp only at hi hq hal hinv ih ⊢
  have hj1 : (S.set j (rdc q))[j]? = some (rdc q) := stkj_set hj
  by_cases h16 : i < n
  · have hlt : ((i : Int) < (n : Int)) := by omega
    have hw : IntKind.i64.wrap ((i : Int) + 1) = (i : Int) + 1 := wrap_i64 (by omega) (by omega)
    simp only [A_, simprocAttr, ne_eq, (U_rec_Reader_Writes _).1, hlt]
    refine h1 j q _ _ _ hj1 hq ?_
    rw [List.set_set]
    obtain ⟨S1, hS1, hl1⟩ := set_len (S := S) (j := j) (x := rdc (keyR q).2)
    have hq1 : rok (keyR q).2 := keyR_ok hq
    have hj2 : S1[j]? = some (rdc (keyR q).2) := by rw [← hS1]; exact stkj_set hj
    simp only [hS1, hl1, A_, simprocAttr, ne_eq, (U_rec_Reader_Writes _).1, fillL]
    refine h0 1 (by omega) j _ _ _ _ (stkj_app hj2) hq1 ?_
    rw [setj_app (stkj_lt hj2)]
    obtain ⟨S2, hS2, hl2⟩ := set_len (S := S1) (j := j) (x := rdc (mostR 1 (keyR q).2).2)
    have hq2 : rok (mostR 1 (keyR q).2).2 := mostR_ok hq1
    have hj3 : S2[j]? = some (rdc (mostR 1 (keyR q).2).2) := by rw [← hS2]; exact stkj_set hj2
    simp only [hS2, hl2, A_, simprocAttr, ne_eq, (U_rec_Reader_Writes _).1, set_kc17]
    refine h0 200 (by omega) j _ _ _ _ (stkj_app hj3) hq2 ?_
    rw [setj_app (stkj_lt hj3)]
    obtain ⟨S3, hS3, hl3⟩ := set_len (S := S2) (j := j) (x := rdc (mostR 200 (mostR 1 (keyR q).2).2).2)
    have hq3 : rok (mostR 200 (mostR 1 (keyR q).2).2).2 := mostR_ok hq2
    have hj4 : S3[j]? = some (rdc (mostR 200 (mostR 1 (keyR q).2).2).2) := by rw [← hS3]; exact stkj_set hj3
    simp only [hS3, hl3, A_, simprocAttr, ne_eq, (U_rec_Reader_Writes _).1]
    refine h2 _ j _ _ _ _ (stkj_app hj4) hq3 ?_
    rw [setj_app (stkj_lt hj4)]
    obtain ⟨S4, hS4, hl4⟩ := set_len (S := S3) (j := j) (x := rdc (textR (mostR 200 (mostR 1 (keyR q).2).2).1 (mostR 200 (mostR 1 (keyR q).2).2).2).2)
    have hS4' : S4 = S.set j (rdc (wrR q).2) := by rw [← hS4, ← hS3, ← hS2, ← hS1, List.set_set, List.set_set, List.set_set]; rfl
    have hde : decide ((((mostR 1 (keyR q).2).1 : Nat) : Int) = 1) = decide ((mostR 1 (keyR q).2).1 = 1) := by
      by_cases h : (mostR 1 (keyR q).2).1 = 1 <;> simp [h]; omega
    have happ : appendL ⟨18, true, 40, (.agg (zk ++ [(.s (.str [])), (.s (.bool false))]))⟩ false (slG 18 (acc.map wA)) (.list .full 18 [.agg (bs (keyR q).1.b ++ [.s (.str (textR (mostR 200 (mostR 1 (keyR q).2).2).1 (mostR 200 (mostR 1 (keyR q).2).2).2).1), .s (.bool (decide ((mostR 1 (keyR q).2).1 = 1)))])]) ⟨S4 ++ [bs (keyR q).1.b ++ [.s (.str (textR (mostR 200 (mostR 1 (keyR q).2).2).1 (mostR 200 (mostR 1 (keyR q).2).2).2).1), .s (.bool (decide ((mostR 1 (keyR q).2).1 = 1)))]], H⟩ = some (slG 18 ((acc ++ [(wrR q).1]).map wA), ⟨S4 ++ [bs (keyR q).1.b ++ [.s (.str (textR (mostR 200 (mostR 1 (keyR q).2).2).1 (mostR 200 (mostR 1 (keyR q).2).2).2).1), .s (.bool (decide ((mostR 1 (keyR q).2).1 = 1)))]], H⟩) := by
      have := app_slG (e := ⟨18, true, 40, (.agg (zk ++ [(.s (.str [])), (.s (.bool false))]))⟩) (es := acc.map wA) (a := wA (wrR q).1) (σ := ⟨S4 ++ [wc (wrR q).1], H⟩) wA_under (by rw [List.length_map]; dsimp only; omega)
      rw [List.map_append]
      exact this
    simp only [zk_eq] at happ
    simp only [hS4, hl4, A_, simprocAttr, ne_eq, (U_rec_Reader_Writes _).1, set_kc16, hde, happ, hw]
    rw [hl4.symm.trans (hl3.symm.trans (hl2.symm.trans hl1.symm))]
    refine ih (i + 1, acc ++ [(wrR q).1], (wrR q).2) _ _ _ (by dsimp only; omega) ⟨by dsimp only; omega, wrR_ok hq, by simp [hal], ?_⟩ rfl ?_ rfl
    · dsimp only
      rw [hinv, show n - i = (n - (i + 1)) + 1 by omega, wrsR]
      simp
    · rw [hl1.trans (hl2.trans (hl3.trans hl4)), app_take]; exact hS4'
  · have hlt : ¬ ((i : Int) < (n : Int)) := by omega
    have hin : n - i = 0 := by omega
    rw [hin, wrsR, List.append_nil] at hinv
    rw [hinv] at hK
    dsimp only at hK
    have fin1 : ∀ (v : AV) G, (lstW acc = v ∨ WkL [v.sh] [lstW acc]) → (∃ b, (b = v ∨ WkL [v.sh] [b]) ∧ K b ⟨S.set j (rdc (if sgood [] acc = true then q else none)), H ++ G⟩) := fun v G h => ⟨lstW acc, h, hK G⟩
    cases acc with
    | nil =>
      simp only [A_, simprocAttr, ne_eq, (U_rec_Reader_Writes _).1, hlt]
      refine hW _ _ [lstW []] _ _ (.nilS (by omega) .nil) ?_
      refine h3 [] _ _ _ (by simp) fun G => ?_
      have hg : sgood [] [] = true := rfl
      rw [hg, if_pos rfl] at fin1
      simp only [A_, simprocAttr, ne_eq, (U_rec_Reader_Writes _).1, hg, take_set]
      exact fin1 _ G (.inr (.nilS (by omega) .nil))
    | cons w acc =>
      have hsl : slG 18 ((w :: acc).map wA) = .list .uniq 18 ((w :: acc).map wA) := by unfold slG; rw [if_neg (by simp)]
      have hal2 : (w :: acc).length ≤ 16 := by omega
      generalize hacc : w :: acc = l at *
      have h3' := h3 l
      unfold lstW at h3'
      simp only [A_, simprocAttr, ne_eq, (U_rec_Reader_Writes _).1, hlt, hsl]
      refine h3' _ _ _ (by omega) fun G => ?_
      cases hg : sgood [] l with
      | true =>
        rw [hg, if_pos rfl] at fin1
        simp only [A_, simprocAttr, ne_eq, (U_rec_Reader_Writes _).1, take_set]
        exact fin1 _ G (.inr (show WkL [.list .sh 18 _] _ from .same .nil))
      | false =>
        rw [hg, if_neg (by simp)] at fin1
        simp only [A_, simprocAttr, ne_eq, (U_rec_Reader_Writes _).1]
        refine h4 j q _ _ _ hj1 hq ?_
        rw [List.set_set]
        simp only [A_, simprocAttr, ne_eq, (U_rec_Reader_Writes _).1, take_set]
        exact fin1 _ G (.inr (show WkL [.list .sh 18 _] _ from .same .nil))
end Go.AM
namespace Go.AM
open Go
set_option maxRecDepth 20000
theorem textR_rest {n : Nat} {b q : List UInt8} (h : (textR n (some b)).2 = some q) : q.length ≤ b.length := by
  rw [textR_some] at h
  by_cases h1 : b.length < n
  · rw [if_pos h1] at h; cases h
  · rw [if_neg h1] at h; cases h; simp
theorem numR_rest {b q : List UInt8} (h : (numR (some b)).2 = some q) : q.length ≤ b.length := by
  rw [numR_some] at h
  by_cases h1 : (getN b).2 = 0
  · rw [if_pos h1] at h; cases h
  · rw [if_neg h1] at h; cases h; simp
def restLe (a b : Rd) : Prop := ∀ q, b = some q → ∃ p, a = some p ∧ q.length ≤ p.length
theorem restLe.refl (a : Rd) : restLe a a := fun q h => ⟨q, h, Nat.le_refl _⟩
theorem restLe.trans {a b c : Rd} (h : restLe a b) (h2 : restLe b c) : restLe a c := fun q hq => by
  obtain ⟨p, hp, hl⟩ := h2 q hq
  obtain ⟨p2, hp2, hl2⟩ := h p hp
  exact ⟨p2, hp2, by omega⟩
theorem textR_le (n : Nat) (r : Rd) : restLe r (textR n r).2 := fun q h => by
  cases r with
  | none => cases h
  | some b => exact ⟨b, rfl, textR_rest h⟩
theorem numR_le (r : Rd) : restLe r (numR r).2 := fun q h => by
  cases r with
  | none => cases h
  | some b => exact ⟨b, rfl, numR_rest h⟩
end Go.AM
namespace Go.AM
open Go
set_option maxRecDepth 20000
def rfc (B : List UInt8) (p : Nat) (bad : Bool) : List AV := [.list .sh 1 (bs B), .s (.int .i64 p), .s (.bool bad)]
theorem rfc_len {B : List UInt8} {p : Nat} {bad : Bool} : (rfc B p bad).length = 3 := rfl
def rfA (B : List UInt8) (p : Nat) (bad : Bool) : Rd := if bad = true then none else some (B.drop p)
theorem rfA_t {B : List UInt8} {p : Nat} : rfA B p true = none := rfl
theorem rfA_f {B : List UInt8} {p : Nat} : rfA B p false = some (B.drop p) := rfl
def RfS (C : CallW) (f : FuncId) (args : List AV) (run : Rd → AV × Rd) : Prop := ∀ (j : Nat) (B : List UInt8) (p : Nat) (bad : Bool) S H (K : AV → St → Prop), S[j]? = some (rfc B p bad) → p ≤ B.length → B.length ≤ 9223372036854775807 → (∀ p' bad', p' ≤ B.length → rfA B p' bad' = (run (rfA B p bad)).2 → K (run (rfA B p bad)).1 ⟨S.set j (rfc B p' bad'), H⟩) → C (.fn f) (.ptr (.stk j) 0 :: args) ⟨S, H⟩ K
set_option maxHeartbeats 8000000 in
theorem ref1_Num_spec {C : CallW} (P : Program) {c : Nat → FuncId} (h0 : GetRS C (c 0)) : ∀ (j : Nat) (B : List UInt8) (p : Nat) (bad : Bool) S H (K : AV → St → Prop), S[j]? = some (rfc B p bad) → p ≤ B.length → B.length ≤ 9223372036854775807 → (∀ p' bad', p' ≤ B.length → rfA B p' bad' = (numR (rfA B p bad)).2 → K (.s (.int .u64 ((numR (rfA B p bad)).1 : Nat))) ⟨S.set j (rfc B p' bad'), H⟩) → runL C P (C_hourglassref1_Reader_Num c) [.ptr (.stk j) 0] ⟨S, H⟩ K := by
  intro j B p bad S H K hj hp hB hK
  have hj' : S[j]? = some [.list .sh 1 (bs B), .s (.int .i64 p), .s (.bool bad)] := hj
  cases bad with
  | true =>
    have := hK p true hp rfl
    rw [stkj_id hj] at this
    simp only [C_hourglassref1_Reader_Num, A_, simprocAttr, ne_eq, (U_hourglassref1_Reader_Num _).1, hj']
    exact this
  | false =>
    rw [rfA_f] at hK
    have hsl := slc_lo (c := 1) (n := p) (es := bs B) (k := .i64) (by rw [bs_length]; exact hp)
    rw [bs_drop] at hsl
    simp only [C_hourglassref1_Reader_Num, A_, simprocAttr, ne_eq, (U_hourglassref1_Reader_Num _).1, hj', hsl]
    refine h0 _ (B.drop p) _ _ _ .l (by simp; omega) ?_
    have hbd := getN_bound (B.drop p)
    rw [numR_some] at hK
    by_cases hn : (getN (B.drop p)).2 = 0
    · rw [if_pos hn] at hK
      have hn' := eq_true (show (((getN (B.drop p)).2 : Nat) : Int) = 0 by omega)
      have hst : storeL 1 (.ptr (.stk j) 2) (.s (.bool true)) ⟨S, H⟩ = some ⟨S.set j (rfc B p true), H⟩ := storeJs hj (by rw [rfc_len]; omega)
      simp only [A_, simprocAttr, ne_eq, (U_hourglassref1_Reader_Num _).1, hj', hn', hst, take_set]
      exact hK p true hp rfl
    · rw [if_neg hn] at hK
      have hn' : ¬ ((((getN (B.drop p)).2 : Nat) : Int) = 0) := by omega
      have hlen : (getN (B.drop p)).2 ≤ B.length - p := by have := hbd.2.1; rwa [List.length_drop] at this
      have hw : IntKind.i64.wrap ((p : Int) + ((getN (B.drop p)).2 : Nat)) = ((p + (getN (B.drop p)).2 : Nat) : Int) := by rw [wrap_i64 (by omega) (by omega)]; omega
      have hst : storeL 1 (.ptr (.stk j) 1) (.s (.int .i64 ((p + (getN (B.drop p)).2 : Nat) : Int))) ⟨S, H⟩ = some ⟨S.set j (rfc B (p + (getN (B.drop p)).2) false), H⟩ := storeJs hj (by rw [rfc_len]; omega)
      simp only [A_, simprocAttr, ne_eq, (U_hourglassref1_Reader_Num _).1, hj', hn', hw, hst, take_set]
      exact hK _ false (by omega) (by rw [rfA_f, List.drop_drop])
set_option maxHeartbeats 8000000 in
theorem ref1_Bytes_spec {C : CallW} (P : Program) (n : Nat) (hn : n < 18446744073709551616) : ∀ (j : Nat) (B : List UInt8) (p : Nat) (bad : Bool) S H (K : AV → St → Prop), S[j]? = some (rfc B p bad) → p ≤ B.length → B.length ≤ 9223372036854775807 → (∀ p' bad', p' ≤ B.length → rfA B p' bad' = (textR n (rfA B p bad)).2 → K (.s (.str (textR n (rfA B p bad)).1)) ⟨S.set j (rfc B p' bad'), H⟩) → runL C P C_hourglassref1_Reader_Bytes [.ptr (.stk j) 0, .s (.int .u64 n)] ⟨S, H⟩ K := by
  intro j B p bad S H K hj hp hB hK
  have hj' : S[j]? = some [.list .sh 1 (bs B), .s (.int .i64 p), .s (.bool bad)] := hj
  have hBl := bs_length B
  cases bad with
  | true =>
    have hst : storeL 1 (.ptr (.stk j) 2) (.s (.bool true)) ⟨S, H⟩ = some ⟨S.set j (rfc B p true), H⟩ := storeJs hj (by rw [rfc_len]; omega)
    simp only [C_hourglassref1_Reader_Bytes, A_, simprocAttr, ne_eq, U_hourglassref1_Reader_Bytes.1, hj', hst, take_set]
    exact hK p true hp rfl
  | false =>
    rw [rfA_f, textR_some, List.length_drop] at hK
    have hw1 : IntKind.i64.wrap ((B.length : Int) - (p : Int)) = ((B.length - p : Nat) : Int) := by rw [wrap_i64 (by omega) (by omega)]; omega
    have hw2 : IntKind.u64.wrap ((B.length - p : Nat) : Int) = ((B.length - p : Nat) : Int) := wrap_u64n (by omega)
    by_cases h : B.length - p < n
    · rw [if_pos h] at hK
      have h' : (((B.length - p : Nat) : Int) < (n : Int)) := by omega
      have hst : storeL 1 (.ptr (.stk j) 2) (.s (.bool true)) ⟨S, H⟩ = some ⟨S.set j (rfc B p true), H⟩ := storeJs hj (by rw [rfc_len]; omega)
      simp only [C_hourglassref1_Reader_Bytes, A_, simprocAttr, ne_eq, U_hourglassref1_Reader_Bytes.1, convL, hj', hBl, hw1, hw2, h', hst, take_set]
      exact hK p true hp rfl
    · rw [if_neg h] at hK
      have h' : ¬ (((B.length - p : Nat) : Int) < (n : Int)) := by omega
      have hw3 : IntKind.i64.wrap (n : Int) = (n : Int) := wrap_i64 (by omega) (by omega)
      have hw4 : IntKind.i64.wrap ((p : Int) + (n : Int)) = ((p + n : Nat) : Int) := by rw [wrap_i64 (by omega) (by omega)]; omega
      have hsl := slc_both (c := 1) (m := p) (n := p + n) (es := bs B) (k := .i64) (k' := .i64) (by omega) (by rw [bs_length]; omega)
      rw [bs_take, bs_drop] at hsl
      have hst : storeL 1 (.ptr (.stk j) 1) (.s (.int .i64 ((p + n : Nat) : Int))) ⟨S, H⟩ = some ⟨S.set j (rfc B (p + n) false), H⟩ := storeJs hj (by rw [rfc_len]; omega)
      have e : (B.take (p + n)).drop p = (B.drop p).take n := by rw [List.take_drop]
      have ci : ∀ (k : IntKind) (m : Int) (σ : St), convL (.int k) (.s (.int .u64 m)) σ = some (.s (.int k (k.wrap m))) := fun _ _ _ => rfl
      have ci2 : ∀ (k : IntKind) (m : Int) (σ : St), convL (.int k) (.s (.int .i64 m)) σ = some (.s (.int k (k.wrap m))) := fun _ _ _ => rfl
      simp only [C_hourglassref1_Reader_Bytes, A_, simprocAttr, ne_eq, U_hourglassref1_Reader_Bytes.1, ci, ci2, hj', hBl, hw1, hw2, h', hw3, hw4, hsl, conv_bs, hst, take_set, e]
      exact hK (p + n) false (by omega) (by rw [rfA_f, List.drop_drop])
set_option maxHeartbeats 8000000 in
theorem ref1_Byte_spec {C : CallW} (P : Program) : ∀ (j : Nat) (B : List UInt8) (p : Nat) (bad : Bool) S H (K : AV → St → Prop), S[j]? = some (rfc B p bad) → p ≤ B.length → B.length ≤ 9223372036854775807 → (∀ p' bad', p' ≤ B.length → rfA B p' bad' = (byteR (rfA B p bad)).2 → K (u8 (byteR (rfA B p bad)).1) ⟨S.set j (rfc B p' bad'), H⟩) → runL C P C_hourglassref1_Reader_Byte [.ptr (.stk j) 0] ⟨S, H⟩ K := by
  intro j B p bad S H K hj hp hB hK
  have hj' : S[j]? = some [.list .sh 1 (bs B), .s (.int .i64 p), .s (.bool bad)] := hj
  have hBl := bs_length B
  have hlt := stkj_lt hj
  cases bad with
  | true =>
    have hst : storeL 1 (.ptr (.stk j) 2) (.s (.bool true)) ⟨S, H⟩ = some ⟨S.set j (rfc B p true), H⟩ := storeJs hj (by rw [rfc_len]; omega)
    simp only [C_hourglassref1_Reader_Byte, A_, simprocAttr, ne_eq, U_hourglassref1_Reader_Byte.1, hj', hst, take_set]
    exact hK p true hp rfl
  | false =>
    rw [rfA_f] at hK
    by_cases h : p < B.length
    · have h' : ¬ ((B.length : Int) ≤ (p : Int)) := by omega
      have hb : byteR (some (B.drop p)) = (B[p], some (B.drop (p + 1))) := by rw [List.drop_eq_getElem_cons h]; rfl
      rw [hb] at hK
      have hw : IntKind.i64.wrap ((p : Int) + 1) = ((p + 1 : Nat) : Int) := by rw [wrap_i64 (by omega) (by omega)]; rfl
      have hw2 : IntKind.i64.wrap (((p + 1 : Nat) : Int) - 1) = (p : Int) := by rw [wrap_i64 (by omega) (by omega)]; omega
      have hst : storeL 1 (.ptr (.stk j) 1) (.s (.int .i64 ((p + 1 : Nat) : Int))) ⟨S, H⟩ = some ⟨S.set j (rfc B (p + 1) false), H⟩ := storeJs hj (by rw [rfc_len]; omega)
      have hj2 : (S.set j (rfc B (p + 1) false))[j]? = some [.list .sh 1 (bs B), .s (.int .i64 ((p + 1 : Nat) : Int)), .s (.bool false)] := stkj_set hj
      have hix := ixl_b h
      simp only [C_hourglassref1_Reader_Byte, A_, simprocAttr, ne_eq, U_hourglassref1_Reader_Byte.1, hj', hBl, h', hw, hst, hj2, hw2, hix, u8, take_set]
      exact hK (p + 1) false (by omega) rfl
    · have h' : ((B.length : Int) ≤ (p : Int)) := by omega
      have hb : byteR (some (B.drop p)) = (0, none) := by rw [List.drop_of_length_le (by omega)]; rfl
      rw [hb] at hK
      have hst : storeL 1 (.ptr (.stk j) 2) (.s (.bool true)) ⟨S, H⟩ = some ⟨S.set j (rfc B p true), H⟩ := storeJs hj (by rw [rfc_len]; omega)
      simp only [C_hourglassref1_Reader_Byte, A_, simprocAttr, ne_eq, U_hourglassref1_Reader_Byte.1, hj', hBl, h', hst, take_set]
      exact hK p true hp rfl
theorem ref14_Bool_spec {C : CallW} (P : Program) {c : Nat → FuncId} (h0 : RfS C (c 0) [] fun r => (.s (.int .u8 (byteR r).1.toNat), (byteR r).2)) : ∀ (j : Nat) (B : List UInt8) (p : Nat) (bad : Bool) S H (K : AV → St → Prop), S[j]? = some (rfc B p bad) → p ≤ B.length → B.length ≤ 9223372036854775807 → (∀ p' bad', p' ≤ B.length → rfA B p' bad' = (boolR (rfA B p bad)).2 → K (.bool (boolR (rfA B p bad)).1) ⟨S.set j (rfc B p' bad'), H⟩) → runL C P (C_hourglassref14_Bool c) [.ptr (.stk j) 0] ⟨S, H⟩ K := by
  intro j B p bad S H K hj hp hB hK
  simp only [C_hourglassref14_Bool, A_, simprocAttr, ne_eq, (U_hourglassref14_Bool _).1]
  refine h0 j B p bad _ _ _ hj hp hB fun p' bad' hp' he => ?_
  dsimp only at he
  unfold boolR at hK
  have hj2 : (S.set j (rfc B p' bad'))[j]? = some (rfc B p' bad') := stkj_set hj
  by_cases h : 1 < (byteR (rfA B p bad)).1.toNat
  · have h' : ((1 : Int) < ((byteR (rfA B p bad)).1.toNat : Int)) := by omega
    have h1 : ¬ (((byteR (rfA B p bad)).1.toNat : Int) = 1) := by omega
    rw [if_pos h] at hK
    have hst : storeL 1 (.ptr (.stk j) 2) (.s (.bool true)) ⟨S.set j (rfc B p' bad'), H⟩ = some ⟨(S.set j (rfc B p' bad')).set j (rfc B p' true), H⟩ := storeJs hj2 (by rw [rfc_len]; omega)
    rw [List.set_set] at hst
    simp only [A_, simprocAttr, ne_eq, (U_hourglassref14_Bool _).1, h', hst, h1, take_set]
    exact hK p' true hp' rfl
  · have h' : ¬ ((1 : Int) < ((byteR (rfA B p bad)).1.toNat : Int)) := by omega
    rw [if_neg h] at hK
    have h1 : decide (((byteR (rfA B p bad)).1.toNat : Int) = 1) = decide ((byteR (rfA B p bad)).1 = 1) := by
      have : (((byteR (rfA B p bad)).1.toNat : Int) = 1) = ((byteR (rfA B p bad)).1 = 1) := propext ⟨fun e => UInt8.toNat_inj.1 (by simp; omega), fun e => by rw [e]; rfl⟩
      simp only [this]
    simp only [A_, simprocAttr, ne_eq, (U_hourglassref14_Bool _).1, h', h1, take_set]
    exact hK p' bad' hp' he
theorem ref14_Count_spec {C : CallW} (P : Program) {c : Nat → FuncId} (h0 : RfS C (c 0) [] fun r => (.s (.int .u64 ((numR r).1 : Nat)), (numR r).2)) (m : Nat) (hm : m < 9223372036854775808) : ∀ (j : Nat) (B : List UInt8) (p : Nat) (bad : Bool) S H (K : AV → St → Prop), S[j]? = some (rfc B p bad) → p ≤ B.length → B.length ≤ 9223372036854775807 → (∀ p' bad', p' ≤ B.length → rfA B p' bad' = (mostR m (rfA B p bad)).2 → K (.s (.int .i64 ((mostR m (rfA B p bad)).1 : Nat))) ⟨S.set j (rfc B p' bad'), H⟩) → runL C P (C_hourglassref14_Count c) [.ptr (.stk j) 0, .s (.int .u64 m)] ⟨S, H⟩ K := by
  intro j B p bad S H K hj hp hB hK
  simp only [C_hourglassref14_Count, A_, simprocAttr, ne_eq, (U_hourglassref14_Count _).1]
  refine h0 j B p bad _ _ _ hj hp hB fun p' bad' hp' he => ?_
  dsimp only at he
  have hj2 : (S.set j (rfc B p' bad'))[j]? = some (rfc B p' bad') := stkj_set hj
  unfold mostR at hK
  by_cases h : m < (numR (rfA B p bad)).1
  · have h' : ((m : Int) < ((numR (rfA B p bad)).1 : Int)) := by omega
    rw [if_pos h] at hK
    have hst : storeL 1 (.ptr (.stk j) 2) (.s (.bool true)) ⟨S.set j (rfc B p' bad'), H⟩ = some ⟨(S.set j (rfc B p' bad')).set j (rfc B p' true), H⟩ := storeJs hj2 (by rw [rfc_len]; omega)
    rw [List.set_set] at hst
    simp only [A_, simprocAttr, ne_eq, (U_hourglassref14_Count _).1, h', hst, take_set]
    exact hK p' true hp' rfl
  · have h' : ¬ ((m : Int) < ((numR (rfA B p bad)).1 : Int)) := by omega
    have hw : IntKind.i64.wrap (((numR (rfA B p bad)).1 : Nat) : Int) = ((numR (rfA B p bad)).1 : Nat) := wrap_i64 (by omega) (by omega)
    rw [if_neg h] at hK
    simp only [A_, simprocAttr, ne_eq, (U_hourglassref14_Count _).1, convL, h', hw, take_set]
    exact hK p' bad' hp' he
theorem ref14_Stamp_spec {C : CallW} (P : Program) {c : Nat → FuncId} (h0 : RfS C (c 0) [] fun r => (.s (.int .u64 ((numR r).1 : Nat)), (numR r).2)) (h1 : ∀ n : Nat, n < 18446744073709551616 → FnS C (c 1) [.s (.int .u64 n)] (.tup [.agg (stc (unpackS n).1), .bool (unpackS n).2])) : ∀ (j : Nat) (B : List UInt8) (p : Nat) (bad : Bool) S H (K : AV → St → Prop), S[j]? = some (rfc B p bad) → p ≤ B.length → B.length ≤ 9223372036854775807 → (∀ p' bad', p' ≤ B.length → rfA B p' bad' = (stampR (rfA B p bad)).2 → K (.agg (stc (stampR (rfA B p bad)).1)) ⟨S.set j (rfc B p' bad'), H⟩) → runL C P (C_hourglassref14_Stamp c) [.ptr (.stk j) 0] ⟨S, H⟩ K := by
  intro j B p bad S H K hj hp hB hK
  have hlt := stkj_lt hj
  simp only [C_hourglassref14_Stamp, A_, simprocAttr, ne_eq, (U_hourglassref14_Stamp _).1]
  refine h0 j B p bad _ _ _ (stkj_app hj) hp hB fun p' bad' hp' he => ?_
  dsimp only at he
  rw [setj_app hlt]
  obtain ⟨S', hS, hl⟩ := set_len (S := S) (j := j) (x := rfc B p' bad')
  have hj2 : S'[j]? = some (rfc B p' bad') := by rw [← hS]; exact stkj_set hj
  simp only [hS, hl, A_, simprocAttr, ne_eq, (U_hourglassref14_Stamp _).1]
  refine h1 _ (numR_lt _) _ _ _ ?_
  unfold stampR at hK
  cases hu : (unpackS (numR (rfA B p bad)).1).2 with
  | true =>
    rw [hu, if_pos rfl] at hK
    have := hK p' bad' hp' he
    rw [hS] at this
    simp only [A_, simprocAttr, ne_eq, (U_hourglassref14_Stamp _).1]
    exact this
  | false =>
    have hz : (unpackS (numR (rfA B p bad)).1).1 = ⟨0, 0⟩ := by
      unfold unpackS at hu ⊢
      split at hu
      · cases hu
      · rename_i h; rw [if_neg h]
    rw [hu, if_neg (by simp)] at hK
    have hst : ∀ l, storeL 1 (.ptr (.stk j) 2) (.s (.bool true)) ⟨S' ++ l, H⟩ = some ⟨(S' ++ l).set j (rfc B p' true), H⟩ := fun l => storeJs (stkj_app hj2) (by rw [rfc_len]; omega)
    simp only [setj_app (stkj_lt hj2)] at hst
    obtain ⟨S2, hS2, hl2⟩ := set_len (S := S') (j := j) (x := rfc B p' true)
    have e : S.set j (rfc B p' true) = S2 := by rw [← hS2, ← hS, List.set_set]
    have := hK p' true hp' rfl
    rw [e] at this
    simp only [A_, simprocAttr, ne_eq, (U_hourglassref14_Stamp _).1, hst]
    simp only [hS2, hl2, hz, A_, simprocAttr, ne_eq, (U_hourglassref14_Stamp _).1]
    exact this
theorem ref14_Text_spec {C : CallW} (P : Program) {c : Nat → FuncId} (h0 : RfS C (c 0) [] fun r => (.s (.int .u64 ((numR r).1 : Nat)), (numR r).2)) (h1 : ∀ n : Nat, n < 18446744073709551616 → RfS C (c 1) [.s (.int .u64 n)] fun r => (.s (.str (textR n r).1), (textR n r).2)) : ∀ (j : Nat) (B : List UInt8) (p : Nat) (bad : Bool) S H (K : AV → St → Prop), S[j]? = some (rfc B p bad) → p ≤ B.length → B.length ≤ 9223372036854775807 → (∀ p' bad', p' ≤ B.length → rfA B p' bad' = (textR (numR (rfA B p bad)).1 (numR (rfA B p bad)).2).2 → K (.s (.str (textR (numR (rfA B p bad)).1 (numR (rfA B p bad)).2).1)) ⟨S.set j (rfc B p' bad'), H⟩) → runL C P (C_hourglassref14_Text c) [.ptr (.stk j) 0] ⟨S, H⟩ K := by
  intro j B p bad S H K hj hp hB hK
  simp only [C_hourglassref14_Text, A_, simprocAttr, ne_eq, (U_hourglassref14_Text _).1]
  refine h0 j B p bad _ _ _ hj hp hB fun p' bad' hp' he => ?_
  dsimp only at he
  simp only [A_, simprocAttr, ne_eq, (U_hourglassref14_Text _).1]
  refine h1 _ (numR_lt _) j B p' bad' _ _ _ (stkj_set hj) hp' hB fun p2 bad2 hp2 he2 => ?_
  dsimp only at he2
  rw [he] at he2
  rw [List.set_set, he]
  simp only [A_, simprocAttr, ne_eq, (U_hourglassref14_Text _).1, take_set]
  exact hK p2 bad2 hp2 he2
set_option maxHeartbeats 4000000 in
theorem ref14_Key_spec {C : CallW} (P : Program) {c : Nat → FuncId} (h0 : ∀ n : Nat, n < 18446744073709551616 → RfS C (c 0) [.s (.int .u64 n)] fun r => (.s (.str (textR n r).1), (textR n r).2)) : ∀ (j : Nat) (B : List UInt8) (p : Nat) (bad : Bool) S H (K : AV → St → Prop), S[j]? = some (rfc B p bad) → p ≤ B.length → B.length ≤ 9223372036854775807 → (∀ p' bad', p' ≤ B.length → rfA B p' bad' = (keyR (rfA B p bad)).2 → K (.agg (bs (keyR (rfA B p bad)).1.b)) ⟨S.set j (rfc B p' bad'), H⟩) → runL C P (C_hourglassref14_Key c) [.ptr (.stk j) 0] ⟨S, H⟩ K := by
  intro j B p bad S H K hj hp hB hK
  have hlt := stkj_lt hj
  simp only [C_hourglassref14_Key, A_, simprocAttr, ne_eq, (U_hourglassref14_Key _).1]
  refine h0 16 (by omega) j B p bad _ _ _ (stkj_app hj) hp hB fun p' bad' hp' he => ?_
  dsimp only at he
  rw [setj_app hlt]
  obtain ⟨S', hS, hl⟩ := set_len (S := S) (j := j) (x := rfc B p' bad')
  have hK2 := hK p' bad' hp' he
  unfold keyR at hK2
  rw [hS] at hK2 ⊢
  generalize hr : rfA B p bad = r at *
  have hcp := copy_str (e := eB) (S := S') (l := [bs key0.b, bs key0.b]) (H := H) (j := 1) (s := (textR 16 r).1) (k := key0) rfl (by simp) rfl (textR_len 16 r)
  have hpd : bs ((textR 16 r).1 ++ key0.b.drop (textR 16 r).1.length) = bs (padK (textR 16 r).1).b := by rw [pad_drop (textR_len 16 r)]; rfl
  rw [hpd] at hcp
  simp only [eB] at hcp
  simp only [hl, A_, simprocAttr, ne_eq, (U_hourglassref14_Key _).1, hcp]
  exact hK2
end Go.AM
namespace Go.AM
open Go
set_option maxRecDepth 20000
def wrQ (r : Rd) : Wr × Rd :=
  (⟨(keyR r).1, (textR (numR (boolR (keyR r).2).2).1 (numR (boolR (keyR r).2).2).2).1, (boolR (keyR r).2).1⟩, (textR (numR (boolR (keyR r).2).2).1 (numR (boolR (keyR r).2).2).2).2)
def wrsQ : Nat → Rd → List Wr × Rd
  | 0, r => ([], r)
  | _ + 1, none => ([], none)
  | n + 1, some b => ((wrQ (some b)).1 :: (wrsQ n (wrQ (some b)).2).1, (wrsQ n (wrQ (some b)).2).2)
theorem wrsQ_none (n : Nat) : wrsQ n none = ([], none) := by cases n <;> rfl
def writesQ (r : Rd) : List Wr × Rd :=
  ((wrsQ (mostR 16 r).1 (mostR 16 r).2).1, if mayW 0 (wrsQ (mostR 16 r).1 (mostR 16 r).2).1 = true then (wrsQ (mostR 16 r).1 (mostR 16 r).2).2 else none)
def WritesQS (C : CallW) (f : FuncId) : Prop := ∀ (j : Nat) (B : List UInt8) (p : Nat) (bad : Bool) S H (K : AV → St → Prop), S[j]? = some (rfc B p bad) → p ≤ B.length → B.length ≤ 9223372036854775807 → (∀ p' bad', p' ≤ B.length → rfA B p' bad' = (writesQ (rfA B p bad)).2 → K (lstW (writesQ (rfA B p bad)).1) ⟨S.set j (rfc B p' bad'), H⟩) → C (.fn f) [.ptr (.stk j) 0] ⟨S, H⟩ K
def MayWS (C : CallW) (f : FuncId) : Prop := ∀ (l : List Wr) (least : Nat) S H (K : AV → St → Prop), l.length ≤ 9223372036854775807 → K (.bool (mayW least l)) ⟨S, H⟩ → C (.fn f) [lstW l, .s (.int .i64 least)] ⟨S, H⟩ K
set_option maxHeartbeats 16000000 in
theorem ref14_Writes_spec {C : CallW} (hC : LeC C C) (hW : WkC C) (P : Program) {c : Nat → FuncId} (h0 : ∀ m : Nat, m < 9223372036854775808 → RfS C (c 0) [.s (.int .u64 m)] fun r => (.s (.int .i64 ((mostR m r).1 : Nat)), (mostR m r).2)) (h1 : RfS C (c 1) [] fun r => (.agg (bs (keyR r).1.b), (keyR r).2)) (h2 : RfS C (c 2) [] fun r => (.bool (boolR r).1, (boolR r).2)) (h3 : RfS C (c 3) [] fun r => (.s (.str (textR (numR r).1 (numR r).2).1), (textR (numR r).1 (numR r).2).2)) (h4 : MayWS C (c 4)) :
    ∀ (j : Nat) (B : List UInt8) (p : Nat) (bad : Bool) S H (K : AV → St → Prop), S[j]? = some (rfc B p bad) → p ≤ B.length → B.length ≤ 9223372036854775807 → (∀ p' bad', p' ≤ B.length → rfA B p' bad' = (writesQ (rfA B p bad)).2 → K (lstW (writesQ (rfA B p bad)).1) ⟨S.set j (rfc B p' bad'), H⟩) → runL C P (C_hourglassref14_Writes c) [.ptr (.stk j) 0] ⟨S, H⟩ (fun v s => ∃ b, (b = v ∨ WkL [v.sh] [b]) ∧ K b s) := by
  intro j B p0 bad0 S H K hj hp0 hB hK
  have hjl := stkj_lt hj
  simp only [C_hourglassref14_Writes, A_, simprocAttr, ne_eq, (U_hourglassref14_Writes _).1]
  refine h0 16 (by omega) j B p0 bad0 _ _ _ hj hp0 hB fun p1 bad1 hp1 he1 => ?_
  dsimp only at he1
  unfold writesQ at hK
  rw [← he1] at hK
  simp only [A_, simprocAttr, ne_eq, (U_hourglassref14_Writes _).1]
  generalize hn : (mostR 16 (rfA B p0 bad0)).1 = n at hK ⊢
  have hn16 : n ≤ 16 := by rw [← hn]; exact mostR_le 16 _
  clear he1 hn
  refine loop_rule hC (α := Nat × List Wr × Nat × Bool) (fun a => n - a.1) (fun a => [.ptr (.stk j) 0, .undef, .undef, .s (.int .i64 n), slG 18 (a.2.1.map wA), .s (.int .i64 a.1), .undef, .undef, .undef, .undef, .undef, .undef, .undef, .undef, .undef, .undef, .undef, .undef, .undef, .undef, .undef, .undef, .undef, .undef, .undef, .undef, .undef, .undef, .undef, .undef, .undef, .undef, .undef, .undef, .undef, .undef, .undef, .undef, .undef, .undef]) (fun a => S.set j (rfc B a.2.2.1 a.2.2.2)) (fun a => H) (fun a => a.1 ≤ n ∧ a.2.2.1 ≤ B.length ∧ a.2.1.length = a.1 ∧ wrsQ n (rfA B p1 bad1) = (a.2.1 ++ (wrsQ (n - a.1) (rfA B a.2.2.1 a.2.2.2)).1, (wrsQ (n - a.1) (rfA B a.2.2.1 a.2.2.2)).2)) (0, [], p1, bad1) ⟨by simp, hp1, rfl, by simp⟩ rfl (by simp [take_set]) rfl (fun a _ => by simp [AV.under, AV.under.go, slG_under]; omega) ?_
  rintro ⟨i, acc, p, bad⟩ ⟨hi, hp, hal, hinv⟩ ih
  dsimp only at hi hp hal hinv ih ⊢
  have hj1 : (S.set j (rfc B p bad))[j]? = some (rfc B p bad) := stkj_set hj
  have hj1' : (S.set j (rfc B p bad))[j]? = some [.list .sh 1 (bs B), .s (.int .i64 p), .s (.bool bad)] := hj1
  have fin0 : wrsQ (n - i) (rfA B p bad) = ([], rfA B p bad) → (∃ p' bad', p' ≤ B.length ∧ rfA B p' bad' = (if mayW 0 acc = true then rfA B p bad else none)) ∧ ∀ (v : AV) p' bad', p' ≤ B.length → rfA B p' bad' = (if mayW 0 acc = true then rfA B p bad else none) → (lstW acc = v ∨ WkL [v.sh] [lstW acc]) → (∃ b, (b = v ∨ WkL [v.sh] [b]) ∧ K b ⟨S.set j (rfc B p' bad'), H⟩) := by
    intro e
    rw [e, List.append_nil] at hinv
    rw [hinv] at hK
    dsimp only at hK
    refine ⟨?_, fun v p' bad' h1 h2 h => ⟨lstW acc, h, hK p' bad' h1 h2⟩⟩
    cases mayW 0 acc with
    | true => exact ⟨p, bad, hp, rfl⟩
    | false => exact ⟨p, true, hp, rfl⟩
  by_cases h16 : i < n ∧ bad = false
  · obtain ⟨h16, rfl⟩ := h16
    have hlt : ((i : Int) < (n : Int)) := by omega
    have hw : IntKind.i64.wrap ((i : Int) + 1) = (i : Int) + 1 := wrap_i64 (by omega) (by omega)
    simp only [A_, simprocAttr, ne_eq, (U_hourglassref14_Writes _).1, hlt, hj1']
    generalize hr : rfA B p false = r at *
    refine h1 j B p false _ _ _ hj1 hp hB fun p2 bad2 hp2 he2 => ?_
    dsimp only at he2
    rw [hr] at he2 ⊢
    rw [List.set_set]
    have hj2 : (S.set j (rfc B p2 bad2))[j]? = some (rfc B p2 bad2) := stkj_set hj
    simp only [A_, simprocAttr, ne_eq, (U_hourglassref14_Writes _).1]
    refine h2 j B p2 bad2 _ _ _ hj2 hp2 hB fun p3 bad3 hp3 he3 => ?_
    dsimp only at he3
    rw [he2] at he3 ⊢
    rw [List.set_set]
    obtain ⟨S1, hS1, hl1⟩ := set_len (S := S) (j := j) (x := rfc B p3 bad3)
    have hj3 : S1[j]? = some (rfc B p3 bad3) := by rw [← hS1]; exact stkj_set hj
    have hcs : ∀ (k : Key) (b : Bool), (bs k.b ++ [AV.s (.str []), AV.s (.bool false)]).set 17 (.s (.bool b)) = bs k.b ++ [.s (.str []), .s (.bool b)] := fun _ _ => set_kc17
    have hfill : fillL (bs key0.b ++ [.s (.str []), .s (.bool false)]) [(0, 16, .agg (bs (keyR r).1.b)), (17, 1, .s (.bool (boolR (keyR r).2).1))] = some (bs (keyR r).1.b ++ [.s (.str []), .s (.bool (boolR (keyR r).2).1)]) := by
      have e1 : ((bs key0.b ++ [AV.s (.str []), AV.s (.bool false)]).take 0 ++ (AV.agg (bs (keyR r).1.b)).cells ++ (bs key0.b ++ [AV.s (.str []), AV.s (.bool false)]).drop (0 + 16)) = bs (keyR r).1.b ++ [.s (.str []), .s (.bool false)] := by
        rw [List.take_zero, Nat.zero_add, drop_kc]; rfl
      have e2 : ((bs (keyR r).1.b ++ [AV.s (.str []), AV.s (.bool false)]).take 17 ++ (AV.s (.bool (boolR (keyR r).2).1)).cells ++ (bs (keyR r).1.b ++ [AV.s (.str []), AV.s (.bool false)]).drop (17 + 1)) = bs (keyR r).1.b ++ [.s (.str []), .s (.bool (boolR (keyR r).2).1)] := by
        rw [take_kc17, drop_kc18]; simp [AV.cells]
      have l1 : ¬ ((AV.agg (bs (keyR r).1.b)).cells.length ≠ 16 ∨ 0 + 16 > (bs key0.b ++ [AV.s (.str []), AV.s (.bool false)]).length ∨ (!(AV.agg (bs (keyR r).1.b)).fit) = true) := by
        have : (AV.agg (bs (keyR r).1.b)).fit = true := by simp [AV.fit]
        rw [this]; simp [AV.cells, kc_length]
      have l2 : ¬ ((AV.s (.bool (boolR (keyR r).2).1)).cells.length ≠ 1 ∨ 17 + 1 > (bs (keyR r).1.b ++ [AV.s (.str []), AV.s (.bool false)]).length ∨ (!(AV.s (.bool (boolR (keyR r).2).1)).fit) = true) := by
        simp [AV.cells, AV.fit, kc_length]
      rw [fillL, if_neg l1, e1, fillL, if_neg l2, e2, fillL]
    simp only [hS1, hl1, A_, simprocAttr, ne_eq, (U_hourglassref14_Writes _).1, hfill]
    refine h3 j B p3 bad3 _ _ _ (stkj_app hj3) hp3 hB fun p4 bad4 hp4 he4 => ?_
    dsimp only at he4
    rw [he3] at he4 ⊢
    rw [setj_app (stkj_lt hj3)]
    obtain ⟨S2, hS2, hl2⟩ := set_len (S := S1) (j := j) (x := rfc B p4 bad4)
    have hS2' : S2 = S.set j (rfc B p4 bad4) := by rw [← hS2, ← hS1, List.set_set]
    have happ : appendL ⟨18, true, 40, (.agg (zk ++ [(.s (.str [])), (.s (.bool false))]))⟩ false (slG 18 (acc.map wA)) (.list .full 18 [.agg (bs (keyR r).1.b ++ [.s (.str (textR (numR (boolR (keyR r).2).2).1 (numR (boolR (keyR r).2).2).2).1), .s (.bool (boolR (keyR r).2).1)])]) ⟨S2 ++ [bs (keyR r).1.b ++ [.s (.str (textR (numR (boolR (keyR r).2).2).1 (numR (boolR (keyR r).2).2).2).1), .s (.bool (boolR (keyR r).2).1)]], H⟩ = some (slG 18 ((acc ++ [(wrQ r).1]).map wA), ⟨S2 ++ [bs (keyR r).1.b ++ [.s (.str (textR (numR (boolR (keyR r).2).2).1 (numR (boolR (keyR r).2).2).2).1), .s (.bool (boolR (keyR r).2).1)]], H⟩) := by
      have := app_slG (e := ⟨18, true, 40, (.agg (zk ++ [(.s (.str [])), (.s (.bool false))]))⟩) (es := acc.map wA) (a := wA (wrQ r).1) (σ := ⟨S2 ++ [wc (wrQ r).1], H⟩) wA_under (by rw [List.length_map]; dsimp only; omega)
      rw [List.map_append]
      exact this
    simp only [zk_eq] at happ
    simp only [hS2, hl2, A_, simprocAttr, ne_eq, (U_hourglassref14_Writes _).1, set_kc16, happ, hw]
    rw [hl2.symm.trans hl1.symm]
    refine ih (i + 1, acc ++ [(wrQ r).1], p4, bad4) _ _ _ (by dsimp only; omega) ⟨by dsimp only; omega, hp4, by simp [hal], ?_⟩ rfl ?_ rfl
    · dsimp only
      rw [hinv, show n - i = (n - (i + 1)) + 1 by omega, he4, ← hr, rfA_f, wrsQ]
      simp only [List.append_assoc, List.cons_append, List.nil_append]
      rfl
    · rw [hl1.trans hl2, app_take]; exact hS2'
  · have hst : storeL 1 (.ptr (.stk j) 2) (.s (.bool true)) ⟨S.set j (rfc B p bad), H⟩ = some ⟨S.set j (rfc B p true), H⟩ := by
      have := storeJs (H := H) (x := .bool true) (off := 2) hj1 (by rw [rfc_len]; omega)
      rw [this, List.set_set]; rfl
    by_cases hlt : ((i : Int) < (n : Int))
    · have hbt : bad = true := by
        cases bad with
        | true => rfl
        | false => exact absurd ⟨by omega, rfl⟩ h16
      subst hbt
      have fin1 := (fin0 (wrsQ_none _)).2
      cases acc with
      | nil =>
        simp only [A_, simprocAttr, ne_eq, (U_hourglassref14_Writes _).1, hlt, hj1']
        refine hW _ _ [lstW [], .s (.int .i64 (0 : Nat))] _ _ (.nilS (by omega) (.same .nil)) ?_
        refine h4 [] 0 _ _ _ (by simp) ?_
        have hg : mayW 0 [] = true := rfl
        simp only [A_, simprocAttr, ne_eq, (U_hourglassref14_Writes _).1, hg, take_set]
        exact fin1 _ p _ hp (by rw [hg, if_pos rfl]) (.inr (.nilS (by omega) .nil))
      | cons w acc =>
        have hsl : slG 18 ((w :: acc).map wA) = .list .uniq 18 ((w :: acc).map wA) := by unfold slG; rw [if_neg (by simp)]
        have hal2 : (w :: acc).length ≤ 16 := by omega
        generalize hacc : w :: acc = l at *
        have h4' := h4 l 0
        unfold lstW at h4'
        simp only [A_, simprocAttr, ne_eq, (U_hourglassref14_Writes _).1, hlt, hj1', hsl]
        refine h4' _ _ _ (by omega) ?_
        cases hg : mayW 0 l with
        | true =>
          simp only [A_, simprocAttr, ne_eq, (U_hourglassref14_Writes _).1, take_set]
          exact fin1 _ p _ hp (by rw [hg, if_pos rfl]) (.inr (show WkL [.list .sh 18 _] _ from .same .nil))
        | false =>
          simp only [A_, simprocAttr, ne_eq, (U_hourglassref14_Writes _).1, hst, take_set]
          exact fin1 _ p true hp (by rw [hg, if_neg (by simp)]; rfl) (.inr (show WkL [.list .sh 18 _] _ from .same .nil))
    · have fin1 := (fin0 (by rw [show n - i = 0 by omega]; rfl)).2
      cases acc with
      | nil =>
        simp only [A_, simprocAttr, ne_eq, (U_hourglassref14_Writes _).1, hlt, hj1']
        refine hW _ _ [lstW [], .s (.int .i64 (0 : Nat))] _ _ (.nilS (by omega) (.same .nil)) ?_
        refine h4 [] 0 _ _ _ (by simp) ?_
        have hg : mayW 0 [] = true := rfl
        simp only [A_, simprocAttr, ne_eq, (U_hourglassref14_Writes _).1, hg, take_set]
        exact fin1 _ p _ hp (by rw [hg, if_pos rfl]) (.inr (.nilS (by omega) .nil))
      | cons w acc =>
        have hsl : slG 18 ((w :: acc).map wA) = .list .uniq 18 ((w :: acc).map wA) := by unfold slG; rw [if_neg (by simp)]
        have hal2 : (w :: acc).length ≤ 16 := by omega
        generalize hacc : w :: acc = l at *
        have h4' := h4 l 0
        unfold lstW at h4'
        simp only [A_, simprocAttr, ne_eq, (U_hourglassref14_Writes _).1, hlt, hj1', hsl]
        refine h4' _ _ _ (by omega) ?_
        cases hg : mayW 0 l with
        | true =>
          simp only [A_, simprocAttr, ne_eq, (U_hourglassref14_Writes _).1, take_set]
          exact fin1 _ p _ hp (by rw [hg, if_pos rfl]) (.inr (show WkL [.list .sh 18 _] _ from .same .nil))
        | false =>
          simp only [A_, simprocAttr, ne_eq, (U_hourglassref14_Writes _).1, hst, take_set]
          exact fin1 _ p true hp (by rw [hg, if_neg (by simp)]; rfl) (.inr (show WkL [.list .sh 18 _] _ from .same .nil))
end Go.AM
namespace Go.AM
open Go
structure Rec where
  kind : Int
  id : Int
  snap : Stp
  stamp : Stp
  writes : List Wr
  yes : Bool
  parts : List Int
  deriving DecidableEq
theorem stp_beq2 (a b : Stp) : (decide (a.t = b.t) && decide (a.n = b.n)) = decide (a = b) := by
  cases a; cases b; simp [Stp.mk.injEq, Bool.decide_and]
def okR (r : Rec) : Prop := r.writes.length ≤ 9223372036854775807 ∧ r.parts.length ≤ 9223372036854775807
end Go.AM
namespace Go.AM
open Go
set_option maxRecDepth 20000
def EqWS (C : CallW) (f : FuncId) : Prop := ∀ (a b : List Wr) S H (K : AV → St → Prop), a.length ≤ 9223372036854775807 → b.length ≤ 9223372036854775807 → K (.bool (decide (a = b))) ⟨S, H⟩ → C (.fn f) [lstW a, lstW b] ⟨S, H⟩ K
theorem Equal_Write_spec {C : CallW} (hC : LeC C C) (P : Program) : ∀ (a b : List Wr) S H (K : AV → St → Prop), a.length ≤ 9223372036854775807 → b.length ≤ 9223372036854775807 → K (.bool (decide (a = b))) ⟨S, H⟩ → runL C P C_slices_Equal_Write [lstW a, lstW b] ⟨S, H⟩ K := by
  intro a b S H K ha hb hK
  by_cases hl : a.length = b.length
  case neg =>
    have hl' : ¬ ((a.length : Int) = (b.length : Int)) := by omega
    rw [decide_eq_false (fun e => hl (by rw [e]))] at hK
    simp only [lstW, C_slices_Equal_Write, A_, simprocAttr, ne_eq, U_slices_Equal_Write.1, hl']
    exact hK
  have hl' := eq_true (show ((a.length : Int) = (b.length : Int)) by omega)
  simp only [lstW, C_slices_Equal_Write, A_, simprocAttr, ne_eq, U_slices_Equal_Write.1, hl']
  refine loop_rule hC (α := Nat) (fun i => a.length - i) (fun i => [.list .sh 18 (a.map wA), .list .sh 18 (b.map wA), .undef, .undef, .undef, .undef, .undef, .undef, .undef, .undef, .undef, .undef, .s (.int .i64 a.length), .s (.int .i64 i), .undef, .undef, .undef, .undef, .undef, .undef, .undef, .undef, .undef, .undef, .undef, .undef]) (fun _ => S) (fun _ => H) (fun i => i ≤ a.length ∧ decide (a = b) = decide (a.drop i = b.drop i)) 0 ⟨by simp, by simp⟩ rfl (by simp) rfl (fun a _ => by simp [AV.under, AV.under.go]) ?_
  rintro i ⟨hi, hinv⟩ ih
  by_cases h16 : i < a.length
  · have hlt : ((i : Int) < (a.length : Int)) := by omega
    have h16' : i < b.length := by omega
    have hw : IntKind.i64.wrap ((i : Int) + 1) = (i : Int) + 1 := wrap_i64 (by omega) (by omega)
    rw [List.drop_eq_getElem_cons h16, List.drop_eq_getElem_cons h16'] at hinv
    by_cases he : a[i] = b[i]
    · have he' := eq_true he
      rw [he] at hinv
      simp only [List.cons.injEq, true_and] at hinv
      simp only [A_, simprocAttr, ne_eq, U_slices_Equal_Write.1, hlt, h16, h16', he', hw]
      exact ih (i + 1) _ _ _ (by omega) ⟨by omega, hinv⟩ rfl (by simp) rfl
    · simp only [List.cons.injEq, he, false_and, decide_false] at hinv
      rw [hinv] at hK
      simp only [A_, simprocAttr, ne_eq, U_slices_Equal_Write.1, hlt, h16, h16', he]
      exact hK
  · have hlt : ¬ ((i : Int) < (a.length : Int)) := by omega
    rw [List.drop_of_length_le (by omega), List.drop_of_length_le (by omega), decide_eq_true rfl] at hinv
    rw [hinv] at hK
    simp only [A_, simprocAttr, ne_eq, U_slices_Equal_Write.1, hlt]
    exact hK
end Go.AM
namespace Go.AM
open Go
set_option maxRecDepth 20000
end Go.AM
namespace Go.AM
open Go
set_option maxRecDepth 20000
end Go.AM
namespace Go.AM
open Go
set_option maxRecDepth 20000
end Go.AM
namespace Go.AM
open Go
set_option maxRecDepth 20000
structure Ent where
  id : Int
  snap : Stp
  stamp : Stp
  writes : List Wr
def enc (e : Ent) : List AV := [.s (.int .i64 e.id), .s (.int .i64 e.snap.t), u8 e.snap.n, .s (.int .i64 e.stamp.t), u8 e.stamp.n, .list .sh 18 (e.writes.map wA)]
end Go.AM
namespace Go.AM
open Go
set_option maxRecDepth 20000
theorem storeP_stk {S : List (List AV)} {l : List (List AV)} {H : List HObj} {j n off : Nat} {vs : List AV} (hj : j < l.length) (h : off + n ≤ (l.getD j []).length) (hv : vs.length = n) (hn : 2 ≤ n) (hu : AV.under.go (S.length + j) vs = true) : storeL n (.ptr (.stk (S.length + j)) off) (.agg vs) ⟨S ++ l, H⟩ = some ⟨S ++ l.set j ((l.getD j []).take off ++ vs ++ (l.getD j []).drop (off + n)), H⟩ := by
  have e : l[j]? = some (l.getD j []) := by simp [List.getD, hj]
  have hs : splice (l.getD j []) off vs = (l.getD j []).take off ++ vs ++ (l.getD j []).drop (off + n) := by
    unfold splice
    split
    · simp at hv; omega
    · rw [hv]
  simp only [storeL, AV.cells, AV.fit, hv, writeCells, boxOf_stk, app_get, e, Option.bind_some, hs, setBox_stk, app_set, mayHold, hu, h, decide_true, Bool.and_self, if_true, true_and]
  rw [if_pos (by simp; omega)]
def WkK (K : AV → St → Prop) : AV → St → Prop := fun v s => ∃ b, (b = v ∨ WkL [v.sh] [b]) ∧ K b s
end Go.AM
namespace Go.AM
open Go
set_option maxRecDepth 20000
theorem ref1_End_spec {C : CallW} (P : Program) : ∀ (j : Nat) (B : List UInt8) (p : Nat) (bad : Bool) S H (K : AV → St → Prop), S[j]? = some (rfc B p bad) → p ≤ B.length → K (.bool (decide (rfA B p bad = some []))) ⟨S, H⟩ → runL C P C_hourglassref1_Reader_End [.ptr (.stk j) 0] ⟨S, H⟩ K := by
  intro j B p bad S H K hj hp hK
  have hj' : S[j]? = some [.list .sh 1 (bs B), .s (.int .i64 p), .s (.bool bad)] := hj
  have hBl := bs_length B
  cases bad with
  | true =>
    rw [rfA_t, decide_eq_false (by simp)] at hK
    simp only [C_hourglassref1_Reader_End, A_, simprocAttr, ne_eq, U_hourglassref1_Reader_End.1, hj']
    exact hK
  | false =>
    rw [rfA_f] at hK
    have : (some (B.drop p) = some ([] : List UInt8)) = ((p : Int) = (B.length : Int)) := propext ⟨fun h => by
      have := congrArg List.length (Option.some.inj h)
      simp at this; omega, fun h => by rw [List.drop_of_length_le (by omega)]⟩
    simp only [this] at hK
    simp only [C_hourglassref1_Reader_End, A_, simprocAttr, ne_eq, U_hourglassref1_Reader_End.1, hj', hBl]
    exact hK
def EndS (C : CallW) (f : FuncId) : Prop := ∀ (j : Nat) (B : List UInt8) (p : Nat) (bad : Bool) S H (K : AV → St → Prop), S[j]? = some (rfc B p bad) → p ≤ B.length → K (.bool (decide (rfA B p bad = some []))) ⟨S, H⟩ → C (.fn f) [.ptr (.stk j) 0] ⟨S, H⟩ K
end Go.AM
namespace Go.AM
open Go
set_option maxRecDepth 20000
structure okB (r : Rec) : Prop where
  ws : r.writes.length ≤ 20
  vs : ∀ w ∈ r.writes, w.val.length ≤ 250
  ps : r.parts.length ≤ 12
  lo : -9223372036854775808 ≤ r.id
  hi : r.id ≤ 9223372036854775807
theorem okB.ok {r : Rec} (h : okB r) : okR r := ⟨by have := h.ws; omega, by have := h.ps; omega⟩
theorem pack_len (s : Stp) : (putN (packN s)).length ≤ 10 := putN_len10 (by have := packN_lt s; omega)
theorem wk_uniq {K : AV → St → Prop} {b : List UInt8} {s : St} {fl : Fl} (h : K (.list .sh 1 (bs b)) s) : WkK K (.list fl 1 (bs b)) s := by
  cases fl
  · exact ⟨_, .inl rfl, h⟩
  · exact ⟨_, .inr (show WkL [.list .sh 1 _] _ from .same .nil), h⟩
  · exact ⟨_, .inr (show WkL [.list .sh 1 _] _ from .same .nil), h⟩
  · exact ⟨_, .inr (show WkL [.list .full 1 _] _ from .full .nil), h⟩
end Go.AM
namespace Go.AM
open Go
set_option maxRecDepth 20000
end Go.AM
namespace Go.AM
open Go
set_option maxRecDepth 20000
end Go.AM
namespace Go.AM
open Go
set_option maxRecDepth 20000
def PutWQS (C : CallW) (f : FuncId) : Prop := ∀ (a : AV) (b : List UInt8) (l : List Wr) S H (K : AV → St → Prop), BA a b → b.length ≤ 1000000 → l.length ≤ 1000 → (∀ w ∈ l, w.val.length ≤ 100000) → K (.list .uniq 1 (bs (b ++ putWs l))) ⟨S, H⟩ → C (.fn f) [a, lstW l] ⟨S, H⟩ K
end Go.AM
