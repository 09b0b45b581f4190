import Derived.Test.YthbiajoionockaaM10
/-! Lists of writes that lie in cells of the heap. -/
namespace Go.AM
open Go
set_option linter.unusedVariables false

def slO (ws : List Wr) : AV := if ws = [] then .s .nilS else .list .own 18 (ws.map wA)
theorem slO_nil : slO [] = .s .nilS := rfl
theorem slO_own {ws : List Wr} (h : ws ≠ []) : slO ws = .list .own 18 (ws.map wA) := if_neg h
theorem slO_under {n : Nat} {ws : List Wr} : AV.under n (slO ws) = true := by unfold slO; split <;> rfl

theorem load1_take {S : List (List AV)} {H : List HObj} {cs : List AV} {n : Nat} {v : AV} (h : cs[n]? = some v) : load1L true (.ptr (.heap H.length) n) ⟨S, H ++ [.cells cs]⟩ = some (v, ⟨S, H ++ [.cells (cs.set n v.sh)]⟩) := by
  have e : boxOf ⟨S, H ++ [.cells cs]⟩ (.heap H.length) = some cs := by simp [boxOf]
  simp only [load1L, e, Option.bind_some, h, setBox, splice]
  simp
theorem storeO_heap {S : List (List AV)} {H : List HObj} {cs : List AV} {n sz : Nat} {es : List AV} (h : n < cs.length) : storeL 1 (.ptr (.heap H.length) n) (.list .own sz es) ⟨S, H ++ [.cells cs]⟩ = some ⟨S, H ++ [.cells (cs.set n (.list .own sz es))]⟩ := by
  have e : boxOf ⟨S, H ++ [.cells cs]⟩ (.heap H.length) = some cs := by simp [boxOf]
  have h1 : n + 1 ≤ cs.length := h
  simp only [storeL, AV.cells, AV.fit, writeCells, e, Option.bind_some, mayHold, AV.under.go, AV.under, List.length_cons, List.length_nil, Nat.zero_add, h1, setBox, splice]
  simp
theorem app_nilW {e : ET} {w : Wr} {σ : St} (h1 : e.c = 18) (h2 : e.bytes = 40) : appendL e false (.s .nilS) (.list .full 18 [.agg (wc w)]) σ = some (.list .uniq 18 [.agg (wc w)], σ) := by
  show appendL e false (.s .nilS) (.list .full 18 [wA w]) σ = some (.list .uniq 18 [wA w], σ)
  have he : elemsL e (.list .full 18 [wA w]) σ = some [wA w] := by simp [elemsL, h1]
  have hu : AV.under.go 0 [wA w] = true := by simp [AV.under.go, wA_under]
  simp [appendL, srcL, AV.isSlice, he, hu, appItems, h1, h2]
theorem app_ownW {e : ET} {w : Wr} {ws : List Wr} {σ : St} (h1 : e.c = 18) (h2 : e.bytes = 40) (hl : ws.length ≤ 1000000) : appendL e false (.list .own 18 (ws.map wA)) (.list .full 18 [.agg (wc w)]) σ = some (.list .own 18 ((ws ++ [w]).map wA), σ) := by
  show appendL e false (.list .own 18 (ws.map wA)) (.list .full 18 [wA w]) σ = some (.list .own 18 ((ws ++ [w]).map wA), σ)
  have he : elemsL e (.list .full 18 [wA w]) σ = some [wA w] := by simp [elemsL, h1]
  have hu : AV.under.go 0 [wA w] = true := by simp [AV.under.go, wA_under]
  have : 2 * (ws.length + 1) * 40 ≤ 2 ^ 48 := by omega
  simp [appendL, srcL, AV.isSlice, he, hu, appItems, h1, h2]
  omega
end Go.AM
/-! More of what operations yield. -/
namespace Go.AM
open Go
set_option linter.unusedVariables false
theorem lenL_row {σ : St} {r : Ref} {off len cap : Nat} : lenL .sl (.row r off len cap) σ = some len := rfl
theorem lenL_nilS {σ : St} : lenL .sl (.s .nilS) σ = some 0 := rfl
theorem ixr_n {r : Ref} {off len cap i c : Nat} {k : IntKind} (h : i < len) (hc : c ≠ 0) : indexAddrL (.sl c) (.row r off len cap) (.s (.int k (i : Int))) = some (.ptr r (off + i * c)) := by
  have h1 : (0 : Int) ≤ i := by omega
  have h2 : (i : Int) < len := by omega
  simp [indexAddrL, h1, h2, hc]
end Go.AM
/-! Ranges over functions, symbolically. -/
namespace Go.AM
open Go
set_option linter.unusedVariables false

def loopO : Option HObj → Option LoopA
  | some (.loop l) => some l
  | _ => none
theorem loopOf_eq {S : List (List AV)} {H : List HObj} {h : Nat} : loopOf ⟨S, H⟩ h = loopO H[h]? := by
  show (match H[h]? with | some (.loop l) => some l | _ => none) = _
  cases H[h]? with
  | none => rfl
  | some o => cases o <;> rfl
theorem loopO_some {l : LoopA} : loopO (some (.loop l)) = some l := rfl

section
variable {C : CallW} {P : Program} {rd : Bool}

/-- Behind a round's body. -/
def rnd2' (h base : Nat) (K : AV → St → Prop) (e : Ex) (S : List (List AV)) (H : List HObj) : Option LoopA → Prop
  | some l => K (.bool (decide (e = .normal))) ⟨S.take base, H.set h (.loop { l with ready := decide (e = .normal), pending := if e = .normal then none else some e })⟩
  | none => False
def rnd2 (h base : Nat) (K : AV → St → Prop) : KC := fun e _ σ => rnd2' h base K e σ.stk σ.heap (loopOf σ h)
/-- Between a round's assignment and its body. -/
def rnd1' (C : CallW) (P : Program) (B : LCode) (h base : Nat) (K : AV → St → Prop) (fr : Fr) (S : List (List AV)) (H : List HObj) : Option LoopA → Prop
  | some l => l.ready = true ∧ l.pending = none ∧ runC C P true B [] fr ⟨S, H.set h (.loop { l with ready := false })⟩ (rnd2 h base K)
  | none => False
def rnd1 (C : CallW) (P : Program) (B : LCode) (h base : Nat) (K : AV → St → Prop) : KC := fun e fr σ => e = .normal ∧ rnd1' C P B h base K fr σ.stk σ.heap (loopOf σ h)
theorem rnd1_n {B h base K fr S H} : rnd1 C P B h base K .normal fr ⟨S, H⟩ = rnd1' C P B h base K fr S H (loopO H[h]?) := by
  unfold rnd1; rw [loopOf_eq]; simp
theorem rnd1_some {B h base K fr S H fid fr0 ps a b} : rnd1' C P B h base K fr S H (some ⟨fid, fr0, ps, a, b, true, none⟩) = runC C P true B [] fr ⟨S, H.set h (.loop ⟨fid, fr0, ps, a, b, false, none⟩)⟩ (rnd2 h base K) := by
  simp [rnd1']
theorem rnd2_e {h base K e fr S H} : rnd2 h base K e fr ⟨S, H⟩ = rnd2' h base K e S H (loopO H[h]?) := by
  unfold rnd2; rw [loopOf_eq]
theorem rnd2_norm {h base K S H fid fr0 ps a b r p} : rnd2' h base K .normal S H (some ⟨fid, fr0, ps, a, b, r, p⟩) = K (.bool true) ⟨S.take base, H.set h (.loop ⟨fid, fr0, ps, a, b, true, none⟩)⟩ := (rfl)
theorem rnd2_ret {h base K S H fid fr0 ps a b r p} : rnd2' h base K .ret S H (some ⟨fid, fr0, ps, a, b, r, p⟩) = K (.bool false) ⟨S.take base, H.set h (.loop ⟨fid, fr0, ps, a, b, false, some .ret⟩)⟩ := (rfl)
theorem rnd2_exit {h base K S H fid fr0 ps a b r p id} : rnd2' h base K (.exit id) S H (some ⟨fid, fr0, ps, a, b, r, p⟩) = K (.bool false) ⟨S.take base, H.set h (.loop ⟨fid, fr0, ps, a, b, false, some (.exit id)⟩)⟩ := (rfl)

/-- What a round of a loop does: its code, lowered. -/
def RoundOK (C : CallW) (P : Program) (f : FuncId) (as bd : Code) (A B : LCode) : Prop :=
  ∀ (h : Nat) (fr0 : Fr) (ps : List Tmp) (args : List AV) (S : List (List AV)) (H : List HObj) (K : AV → St → Prop), H[h]? = some (.loop ⟨f, fr0, ps, as, bd, true, none⟩) → args.length = ps.length →
    runC C P true A [] (setAll ps (args.map AV.look) fr0) ⟨S, H⟩ (rnd1 C P B h S.length K) → C (.yield h) args ⟨S, H⟩ K

/-! A range over a function, from the caller's side -/
def rfE (C : CallW) (P : Program) (rd : Bool) (is : List Item) (K : KC) (fr : Fr) (n : Nat) (S : List (List AV)) (H : List HObj) : Option LoopA → Prop
  | some l => (l.ready || l.pending.isSome) = true ∧ contK C P rd is K (l.pending.getD .normal) fr ⟨S, H.set n .dead⟩
  | none => False
def rfK (C : CallW) (P : Program) (rd : Bool) (is : List Item) (K : KC) (fr : Fr) (n : Nat) : AV → St → Prop := fun _ σ => rfE C P rd is K fr n σ.stk σ.heap (loopO σ.heap[n]?)
theorem rfK_eq {is K fr n v S H} : rfK C P rd is K fr n v ⟨S, H⟩ = rfE C P rd is K fr n S H (loopO H[n]?) := (rfl)
theorem rfE_norm {is K fr n S H fid fr0 ps a b} : rfE C P rd is K fr n S H (some ⟨fid, fr0, ps, a, b, true, none⟩) = nxt C P rd is fr ⟨S, H.set n .dead⟩ K := by simp [rfE, nxt]
theorem rfE_ret {is K fr n S H fid fr0 ps a b r} : rfE C P rd is K fr n S H (some ⟨fid, fr0, ps, a, b, r, some .ret⟩) = rtn C P rd is fr ⟨S, H.set n .dead⟩ K := by simp [rfE, rtn]
theorem rfE_exit {is K fr n S H fid fr0 ps a b r id} : rfE C P rd is K fr n S H (some ⟨fid, fr0, ps, a, b, r, some (.exit id)⟩) = ext C P rd id is fr ⟨S, H.set n .dead⟩ K := by simp [rfE, ext]

def rfn (C : CallW) (P : Program) (rd : Bool) (f : FuncId) (ps : Array Tmp) (a b : Code) (is : List Item) (fr : Fr) (S : List (List AV)) (H : List HObj) (K : KC) : AV → Prop
  | .fn (.func h) first captured => hasBody P h = true ∧ C (.fn h) (first ++ [.yield H.length] ++ captured) ⟨S, H ++ [.loop ⟨f, fr.map lasting, ps.toList, a, b, true, none⟩]⟩ (rfK C P rd is K fr H.length)
  | _ => False
theorem runC_rfun {g f ps a b is fr S H K} : runC C P false (.rfun g f ps a b) is fr ⟨S, H⟩ K = rfn C P false f ps a b is fr S H K (seL fr g) := by
  show (false = false ∧ (match seL fr g with | .fn (.func h) first captured => _ | _ => False)) = _
  simp only [true_and]
  cases hs : seL fr g with
  | fn fn first captured =>
    cases fn with
    | func h =>
      show (_ ∧ _) = (_ ∧ _)
      refine congr (congrArg And rfl) ?_
      refine congrArg (C (.fn h) (first ++ [.yield H.length] ++ captured) ⟨S, H ++ [.loop ⟨f, fr.map lasting, ps.toList, a, b, true, none⟩]⟩) ?_
      funext v σ'
      show (match σ'.heap[H.length]? with | some (.loop l) => _ | _ => False) = rfE C P false is K fr H.length σ'.stk σ'.heap (loopO σ'.heap[H.length]?)
      cases σ'.heap[H.length]? with
      | none => rfl
      | some o => cases o <;> rfl
    | _ => rfl
  | _ => rfl
theorem rfn_fn {f ps a b is fr S H K h first captured} : rfn C P rd f ps a b is fr S H K (.fn (.func h) first captured) = (hasBody P h = true ∧ C (.fn h) (first ++ [.yield H.length] ++ captured) ⟨S, H ++ [.loop ⟨f, fr.map lasting, ps.toList, a, b, true, none⟩]⟩ (rfK C P rd is K fr H.length)) := (rfl)
end

/-- The bodies of a function's ranges over functions. -/
def rfsOf : Code → List (Code × Code)
  | .seq a b => rfsOf a ++ rfsOf b
  | .cond _ a b => rfsOf a ++ rfsOf b
  | .block _ b => rfsOf b
  | .loop b => rfsOf b
  | .rangeFunc _ _ a b => [(a, b)]
  | _ => []
def rfAt (P : Program) (f : FuncId) (i : Nat) : Code × Code :=
  match P.funcs[f]? with
  | some fn => match fn.body with
    | some c => (rfsOf c).getD i (.skip, .skip)
    | none => (.skip, .skip)
  | none => (.skip, .skip)

/-- The rule for rounds, of all calls. -/
theorem roundE {P : Program} {cfg : Cfg} {tr : Trees} {f : FuncId} {as bd : Code} {A B : LCode} (t1 : treesIn cfg tr f as = true) (t2 : treesIn cfg tr f bd = true) (hA : lowCode P cfg tr f 0 as = A) (hB : lowCode P cfg tr f 0 bd = B) : RoundOK (EvW P cfg tr) P f as bd A B := by
  intro h fr0 ps args S H K hl ha hr
  refine EvW.fold ?_
  show roundW (EvW P cfg tr) P cfg tr h args ⟨S, H⟩ K
  have hlo : loopOf ⟨S, H⟩ h = some ⟨f, fr0, ps, as, bd, true, none⟩ := by rw [loopOf_eq, hl]; rfl
  unfold roundW
  rw [hlo]
  refine ⟨ha, t1, t2, ?_⟩
  subst hA; subst hB
  refine codeW_mono EvW.le as (fun e fr σ1 hk => ?_) (execL_ok EvW.le as 0 _ _ _ hr)
  obtain ⟨he, hk⟩ := hk
  refine ⟨he, ?_⟩
  unfold rnd1' at hk
  cases hl1 : loopOf σ1 h with
  | none => rw [hl1] at hk; exact hk.elim
  | some l1 =>
    rw [hl1] at hk
    obtain ⟨h1, h2, h3⟩ := hk
    refine ⟨h1, h2, ?_⟩
    refine codeW_mono EvW.le bd (fun e fr σ2 hk => ?_) (execL_ok EvW.le bd 0 _ _ _ h3)
    unfold contK rnd2 rnd2' at hk
    cases hl2 : loopOf σ2 h with
    | none => rw [hl2] at hk; exact hk.elim
    | some l2 => rw [hl2] at hk; exact hk
end Go.AM
/-! Functions, lowered. -/
namespace Go.AM
open Go
set_option linter.unusedVariables false
set_option maxRecDepth 20000
def C_key_text_k1 : LCode := (.block 1 (.sq [⟨some 12, none, .mv false (.t 3)⟩,
          ⟨some 13, none, .bin .add .sc (.t 12) (.c (.int .i64 1))⟩,
          ⟨some 3, none, .mv true (.t 13)⟩]))
theorem u_C_key_text_k1 {C : CallW} {P : Program} {rd : Bool} {is : List Item} {fr : Fr} {σ : St} {K : KC} : runC C P rd C_key_text_k1 is fr σ K = runC C P rd (.block 1 (.sq [⟨some 12, none, .mv false (.t 3)⟩,
          ⟨some 13, none, .bin .add .sc (.t 12) (.c (.int .i64 1))⟩,
          ⟨some 3, none, .mv true (.t 13)⟩])) is fr σ K := (rfl)
def C_key_text_k2 : LCode := (.seq (.seq (.sq [⟨some 4, none, .mv false (.t 3)⟩,
        ⟨some 5, none, .bin .lss .sc (.t 4) (.c (.int .i64 16))⟩,
        ⟨some 6, none, .mv false (.t 5)⟩,
        ⟨some 7, some (6, true), .mv false (.t 3)⟩,
        ⟨some 8, some (6, true), .ixa (.arr 16 1) (.t 1) (.t 7)⟩,
        ⟨some 9, some (6, true), .load1 false (.t 8)⟩,
        ⟨some 10, some (6, true), .bin .neq .sc (.t 9) (.c (.int .u8 0))⟩,
        ⟨some 11, none, .pick (.t 6) (.t 10) (.c (.bool false))⟩]) (.cond (.t 11) .skip (.exit 0))) C_key_text_k1)
theorem u_C_key_text_k2 {C : CallW} {P : Program} {rd : Bool} {is : List Item} {fr : Fr} {σ : St} {K : KC} : runC C P rd C_key_text_k2 is fr σ K = runC C P rd (.seq (.seq (.sq [⟨some 4, none, .mv false (.t 3)⟩,
        ⟨some 5, none, .bin .lss .sc (.t 4) (.c (.int .i64 16))⟩,
        ⟨some 6, none, .mv false (.t 5)⟩,
        ⟨some 7, some (6, true), .mv false (.t 3)⟩,
        ⟨some 8, some (6, true), .ixa (.arr 16 1) (.t 1) (.t 7)⟩,
        ⟨some 9, some (6, true), .load1 false (.t 8)⟩,
        ⟨some 10, some (6, true), .bin .neq .sc (.t 9) (.c (.int .u8 0))⟩,
        ⟨some 11, none, .pick (.t 6) (.t 10) (.c (.bool false))⟩]) (.cond (.t 11) .skip (.exit 0))) C_key_text_k1) is fr σ K := (rfl)
def C_key_text_k3 : LCode := (.seq (.sq [⟨some 14, none, .mv false (.t 3)⟩,
    ⟨some 15, none, .slc (.arr 16 1) (.t 1) none (some (.t 14)) none⟩,
    ⟨some 16, none, .conv .ofBytes (.t 15)⟩,
    ⟨some 2, none, .mv true (.t 16)⟩]) .ret)
theorem u_C_key_text_k3 {C : CallW} {P : Program} {rd : Bool} {is : List Item} {fr : Fr} {σ : St} {K : KC} : runC C P rd C_key_text_k3 is fr σ K = runC C P rd (.seq (.sq [⟨some 14, none, .mv false (.t 3)⟩,
    ⟨some 15, none, .slc (.arr 16 1) (.t 1) none (some (.t 14)) none⟩,
    ⟨some 16, none, .conv .ofBytes (.t 15)⟩,
    ⟨some 2, none, .mv true (.t 16)⟩]) .ret) is fr σ K := (rfl)
def C_key_text_k4 : LCode := (.seq (.block 0 (.loop [false, true, false, true, false, false, false, false, false, false, false, false, false, false, false, false, false] C_key_text_k2)) C_key_text_k3)
theorem u_C_key_text_k4 {C : CallW} {P : Program} {rd : Bool} {is : List Item} {fr : Fr} {σ : St} {K : KC} : runC C P rd C_key_text_k4 is fr σ K = runC C P rd (.seq (.block 0 (.loop [false, true, false, true, false, false, false, false, false, false, false, false, false, false, false, false, false] C_key_text_k2)) C_key_text_k3) is fr σ K := (rfl)
def C_key_text : LFn :=
  ⟨17, [.t 2], (.seq (.sq [⟨some 1, none, .box false false (.t 0)⟩,
    ⟨some 2, none, .mv true (.c (.str []))⟩]) (.seq (.sq [⟨some 3, none, .mv true (.c (.int .i64 0))⟩]) C_key_text_k4))⟩

def C_key_Of_k1 (f_strings_IndexByte : FuncId) : LCode := (.seq (.sq [⟨some 17, none, .loadA 16 (.t 4)⟩,
      ⟨none, none, .store 16 (.t 2) (.t 17)⟩,
      ⟨some 3, none, .mv true (.c (.int .i64 1))⟩]) .ret)
theorem u_C_key_Of_k1 {C : CallW} {P : Program} {rd : Bool} {is : List Item} {fr : Fr} {σ : St} {K : KC} (f_strings_IndexByte : FuncId) : runC C P rd (C_key_Of_k1 f_strings_IndexByte) is fr σ K = runC C P rd (.seq (.sq [⟨some 17, none, .loadA 16 (.t 4)⟩,
      ⟨none, none, .store 16 (.t 2) (.t 17)⟩,
      ⟨some 3, none, .mv true (.c (.int .i64 1))⟩]) .ret) is fr σ K := (rfl)
def C_key_Of_k2 (f_strings_IndexByte : FuncId) : LCode := (.seq (.sq [⟨some 21, none, .loadA 16 (.t 4)⟩,
    ⟨none, none, .store 16 (.t 2) (.t 21)⟩,
    ⟨some 3, none, .mv true (.c (.int .i64 0))⟩]) .ret)
theorem u_C_key_Of_k2 {C : CallW} {P : Program} {rd : Bool} {is : List Item} {fr : Fr} {σ : St} {K : KC} (f_strings_IndexByte : FuncId) : runC C P rd (C_key_Of_k2 f_strings_IndexByte) is fr σ K = runC C P rd (.seq (.sq [⟨some 21, none, .loadA 16 (.t 4)⟩,
    ⟨none, none, .store 16 (.t 2) (.t 21)⟩,
    ⟨some 3, none, .mv true (.c (.int .i64 0))⟩]) .ret) is fr σ K := (rfl)
def C_key_Of_k3 (f_strings_IndexByte : FuncId) : LCode := (.seq (.sq [⟨some 18, none, .slc (.arr 16 1) (.t 4) none none none⟩,
    ⟨some 19, none, .mv false (.t 0)⟩,
    ⟨some 20, none, .cpy ⟨1, false, 1, (.s (.int .u8 0))⟩ true (.t 18) (.t 19)⟩]) (C_key_Of_k2 f_strings_IndexByte))
theorem u_C_key_Of_k3 {C : CallW} {P : Program} {rd : Bool} {is : List Item} {fr : Fr} {σ : St} {K : KC} (f_strings_IndexByte : FuncId) : runC C P rd (C_key_Of_k3 f_strings_IndexByte) is fr σ K = runC C P rd (.seq (.sq [⟨some 18, none, .slc (.arr 16 1) (.t 4) none none none⟩,
    ⟨some 19, none, .mv false (.t 0)⟩,
    ⟨some 20, none, .cpy ⟨1, false, 1, (.s (.int .u8 0))⟩ true (.t 18) (.t 19)⟩]) (C_key_Of_k2 f_strings_IndexByte)) is fr σ K := (rfl)
def C_key_Of_k4 (f_strings_IndexByte : FuncId) : LCode := (.seq (.seq (.sq [⟨some 5, none, .mv false (.t 0)⟩,
    ⟨some 6, none, .bin .eql .sc (.t 5) (.c (.str []))⟩,
    ⟨some 7, none, .mv false (.t 6)⟩,
    ⟨some 8, some (7, false), .mv false (.t 0)⟩,
    ⟨some 9, some (7, false), .len .str (.t 8)⟩,
    ⟨some 10, some (7, false), .bin .gtr .sc (.t 9) (.c (.int .i64 16))⟩,
    ⟨some 11, none, .pick (.t 7) (.c (.bool true)) (.t 10)⟩,
    ⟨some 12, none, .mv false (.t 11)⟩,
    ⟨some 13, some (12, false), .mv false (.t 0)⟩,
    ⟨some 14, some (12, false), .call (.f f_strings_IndexByte) [(.t 13), (.c (.int .u8 0))]⟩,
    ⟨some 15, some (12, false), .bin .geq .sc (.t 14) (.c (.int .i64 0))⟩,
    ⟨some 16, none, .pick (.t 12) (.c (.bool true)) (.t 15)⟩]) (.cond (.t 16) (C_key_Of_k1 f_strings_IndexByte) .skip)) (C_key_Of_k3 f_strings_IndexByte))
theorem u_C_key_Of_k4 {C : CallW} {P : Program} {rd : Bool} {is : List Item} {fr : Fr} {σ : St} {K : KC} (f_strings_IndexByte : FuncId) : runC C P rd (C_key_Of_k4 f_strings_IndexByte) is fr σ K = runC C P rd (.seq (.seq (.sq [⟨some 5, none, .mv false (.t 0)⟩,
    ⟨some 6, none, .bin .eql .sc (.t 5) (.c (.str []))⟩,
    ⟨some 7, none, .mv false (.t 6)⟩,
    ⟨some 8, some (7, false), .mv false (.t 0)⟩,
    ⟨some 9, some (7, false), .len .str (.t 8)⟩,
    ⟨some 10, some (7, false), .bin .gtr .sc (.t 9) (.c (.int .i64 16))⟩,
    ⟨some 11, none, .pick (.t 7) (.c (.bool true)) (.t 10)⟩,
    ⟨some 12, none, .mv false (.t 11)⟩,
    ⟨some 13, some (12, false), .mv false (.t 0)⟩,
    ⟨some 14, some (12, false), .call (.f f_strings_IndexByte) [(.t 13), (.c (.int .u8 0))]⟩,
    ⟨some 15, some (12, false), .bin .geq .sc (.t 14) (.c (.int .i64 0))⟩,
    ⟨some 16, none, .pick (.t 12) (.c (.bool true)) (.t 15)⟩]) (.cond (.t 16) (C_key_Of_k1 f_strings_IndexByte) .skip)) (C_key_Of_k3 f_strings_IndexByte)) is fr σ K := (rfl)
def C_key_Of (f_strings_IndexByte : FuncId) : LFn :=
  ⟨22, [.many 2 16, .t 3], (.seq (.sq [⟨some 2, none, .alloc false zk⟩,
    ⟨some 3, none, .mv true (.c (.int .i64 0))⟩]) (.seq (.sq [⟨some 4, none, .alloc false zk⟩]) (C_key_Of_k4 f_strings_IndexByte)))⟩

def C_key_Good_k1 (f_key_text f_key_Of : FuncId) : LCode := (.seq (.sq [⟨some 11, none, .mv false (.t 4)⟩,
    ⟨some 12, none, .bin .eql .sc (.t 11) (.c (.int .i64 0))⟩,
    ⟨some 13, none, .mv false (.t 12)⟩,
    ⟨some 14, some (13, true), .loadA 16 (.t 3)⟩,
    ⟨some 15, some (13, true), .loadA 16 (.t 1)⟩,
    ⟨some 16, some (13, true), .bin .eql (.leaf lk) (.t 14) (.t 15)⟩,
    ⟨some 17, none, .pick (.t 13) (.t 16) (.c (.bool false))⟩,
    ⟨some 2, none, .mv true (.t 17)⟩]) .ret)
theorem u_C_key_Good_k1 {C : CallW} {P : Program} {rd : Bool} {is : List Item} {fr : Fr} {σ : St} {K : KC} (f_key_text f_key_Of : FuncId) : runC C P rd (C_key_Good_k1 f_key_text f_key_Of) is fr σ K = runC C P rd (.seq (.sq [⟨some 11, none, .mv false (.t 4)⟩,
    ⟨some 12, none, .bin .eql .sc (.t 11) (.c (.int .i64 0))⟩,
    ⟨some 13, none, .mv false (.t 12)⟩,
    ⟨some 14, some (13, true), .loadA 16 (.t 3)⟩,
    ⟨some 15, some (13, true), .loadA 16 (.t 1)⟩,
    ⟨some 16, some (13, true), .bin .eql (.leaf lk) (.t 14) (.t 15)⟩,
    ⟨some 17, none, .pick (.t 13) (.t 16) (.c (.bool false))⟩,
    ⟨some 2, none, .mv true (.t 17)⟩]) .ret) is fr σ K := (rfl)
def C_key_Good_k2 (f_key_text f_key_Of : FuncId) : LCode := (.seq (.sq [⟨some 6, none, .loadA 16 (.t 1)⟩,
    ⟨some 7, none, .call (.f f_key_text) [(.t 6)]⟩,
    ⟨some 8, none, .call (.f f_key_Of) [(.t 7)]⟩,
    ⟨some 5, none, .mv false (.t 8)⟩,
    ⟨some 9, none, .ext (.t 5) 0⟩,
    ⟨some 10, none, .ext (.t 5) 1⟩,
    ⟨some 3, none, .alloc false zk⟩,
    ⟨none, none, .store 16 (.t 3) (.t 9)⟩,
    ⟨some 4, none, .mv true (.t 10)⟩]) (C_key_Good_k1 f_key_text f_key_Of))
theorem u_C_key_Good_k2 {C : CallW} {P : Program} {rd : Bool} {is : List Item} {fr : Fr} {σ : St} {K : KC} (f_key_text f_key_Of : FuncId) : runC C P rd (C_key_Good_k2 f_key_text f_key_Of) is fr σ K = runC C P rd (.seq (.sq [⟨some 6, none, .loadA 16 (.t 1)⟩,
    ⟨some 7, none, .call (.f f_key_text) [(.t 6)]⟩,
    ⟨some 8, none, .call (.f f_key_Of) [(.t 7)]⟩,
    ⟨some 5, none, .mv false (.t 8)⟩,
    ⟨some 9, none, .ext (.t 5) 0⟩,
    ⟨some 10, none, .ext (.t 5) 1⟩,
    ⟨some 3, none, .alloc false zk⟩,
    ⟨none, none, .store 16 (.t 3) (.t 9)⟩,
    ⟨some 4, none, .mv true (.t 10)⟩]) (C_key_Good_k1 f_key_text f_key_Of)) is fr σ K := (rfl)
def C_key_Good (f_key_text f_key_Of : FuncId) : LFn :=
  ⟨18, [.t 2], (.seq (.sq [⟨some 1, none, .box false false (.t 0)⟩,
    ⟨some 2, none, .mv true (.c (.bool false))⟩]) (C_key_Good_k2 f_key_text f_key_Of))⟩

def C_key_Cmp_k1 (f_bytes_Compare : FuncId) : LCode := (.seq (.tree (.rd ⟨some 5, none, .slc (.arr 16 1) (.t 2) none none none⟩ 0 false (.rd ⟨some 6, none, .slc (.arr 16 1) (.t 3) none none none⟩ 1 false (.mv ⟨some 7, none, .call (.f f_bytes_Compare) [(.t 5), (.t 6)]⟩ [0, 1] (.mv ⟨some 4, none, .mv true (.t 7)⟩ [0, 1, 2] .done .stop) .stop)))) .ret)
theorem u_C_key_Cmp_k1 {C : CallW} {P : Program} {rd : Bool} {is : List Item} {fr : Fr} {σ : St} {K : KC} (f_bytes_Compare : FuncId) : runC C P rd (C_key_Cmp_k1 f_bytes_Compare) is fr σ K = runC C P rd (.seq (.tree (.rd ⟨some 5, none, .slc (.arr 16 1) (.t 2) none none none⟩ 0 false (.rd ⟨some 6, none, .slc (.arr 16 1) (.t 3) none none none⟩ 1 false (.mv ⟨some 7, none, .call (.f f_bytes_Compare) [(.t 5), (.t 6)]⟩ [0, 1] (.mv ⟨some 4, none, .mv true (.t 7)⟩ [0, 1, 2] .done .stop) .stop)))) .ret) is fr σ K := (rfl)
def C_key_Cmp (f_bytes_Compare : FuncId) : LFn :=
  ⟨8, [.t 4], (.seq (.sq [⟨some 2, none, .box false false (.t 0)⟩,
    ⟨some 3, none, .box false false (.t 1)⟩,
    ⟨some 4, none, .mv true (.c (.int .i64 0))⟩]) (C_key_Cmp_k1 f_bytes_Compare))⟩

def C_bytes_Compare_k1 (f_internal_bytealg_Compare : FuncId) : LCode := (.seq (.sq [⟨some 5, none, .mv true (.t 0)⟩,
    ⟨some 6, none, .mv true (.t 1)⟩,
    ⟨some 7, none, .call (.f f_internal_bytealg_Compare) [(.t 5), (.t 6)]⟩,
    ⟨some 4, none, .mv true (.t 7)⟩]) .ret)
theorem u_C_bytes_Compare_k1 {C : CallW} {P : Program} {rd : Bool} {is : List Item} {fr : Fr} {σ : St} {K : KC} (f_internal_bytealg_Compare : FuncId) : runC C P rd (C_bytes_Compare_k1 f_internal_bytealg_Compare) is fr σ K = runC C P rd (.seq (.sq [⟨some 5, none, .mv true (.t 0)⟩,
    ⟨some 6, none, .mv true (.t 1)⟩,
    ⟨some 7, none, .call (.f f_internal_bytealg_Compare) [(.t 5), (.t 6)]⟩,
    ⟨some 4, none, .mv true (.t 7)⟩]) .ret) is fr σ K := (rfl)
def C_bytes_Compare (f_internal_bytealg_Compare : FuncId) : LFn :=
  ⟨8, [.t 4], (.seq (.sq [⟨some 4, none, .mv true (.c (.int .i64 0))⟩]) (C_bytes_Compare_k1 f_internal_bytealg_Compare))⟩

def C_strings_IndexByte_k1 (f_internal_stringslite_IndexByte : FuncId) : LCode := (.seq (.sq [⟨some 5, none, .mv false (.t 0)⟩,
    ⟨some 6, none, .mv false (.t 1)⟩,
    ⟨some 7, none, .call (.f f_internal_stringslite_IndexByte) [(.t 5), (.t 6)]⟩,
    ⟨some 4, none, .mv true (.t 7)⟩]) .ret)
theorem u_C_strings_IndexByte_k1 {C : CallW} {P : Program} {rd : Bool} {is : List Item} {fr : Fr} {σ : St} {K : KC} (f_internal_stringslite_IndexByte : FuncId) : runC C P rd (C_strings_IndexByte_k1 f_internal_stringslite_IndexByte) is fr σ K = runC C P rd (.seq (.sq [⟨some 5, none, .mv false (.t 0)⟩,
    ⟨some 6, none, .mv false (.t 1)⟩,
    ⟨some 7, none, .call (.f f_internal_stringslite_IndexByte) [(.t 5), (.t 6)]⟩,
    ⟨some 4, none, .mv true (.t 7)⟩]) .ret) is fr σ K := (rfl)
def C_strings_IndexByte (f_internal_stringslite_IndexByte : FuncId) : LFn :=
  ⟨8, [.t 4], (.seq (.sq [⟨some 4, none, .mv true (.c (.int .i64 0))⟩]) (C_strings_IndexByte_k1 f_internal_stringslite_IndexByte))⟩

def C_internal_stringslite_IndexByte_k1 (f_internal_bytealg_IndexByteString : FuncId) : LCode := (.seq (.sq [⟨some 5, none, .mv false (.t 0)⟩,
    ⟨some 6, none, .mv false (.t 1)⟩,
    ⟨some 7, none, .call (.f f_internal_bytealg_IndexByteString) [(.t 5), (.t 6)]⟩,
    ⟨some 4, none, .mv true (.t 7)⟩]) .ret)
theorem u_C_internal_stringslite_IndexByte_k1 {C : CallW} {P : Program} {rd : Bool} {is : List Item} {fr : Fr} {σ : St} {K : KC} (f_internal_bytealg_IndexByteString : FuncId) : runC C P rd (C_internal_stringslite_IndexByte_k1 f_internal_bytealg_IndexByteString) is fr σ K = runC C P rd (.seq (.sq [⟨some 5, none, .mv false (.t 0)⟩,
    ⟨some 6, none, .mv false (.t 1)⟩,
    ⟨some 7, none, .call (.f f_internal_bytealg_IndexByteString) [(.t 5), (.t 6)]⟩,
    ⟨some 4, none, .mv true (.t 7)⟩]) .ret) is fr σ K := (rfl)
def C_internal_stringslite_IndexByte (f_internal_bytealg_IndexByteString : FuncId) : LFn :=
  ⟨8, [.t 4], (.seq (.sq [⟨some 4, none, .mv true (.c (.int .i64 0))⟩]) (C_internal_stringslite_IndexByte_k1 f_internal_bytealg_IndexByteString))⟩

def C_hourglassref10_Of_k1 : LCode := (.seq (.sq [⟨some 15, none, .loadA 16 (.t 4)⟩,
      ⟨none, none, .store 16 (.t 2) (.t 15)⟩,
      ⟨some 3, none, .mv true (.c (.bool false))⟩]) .ret)
theorem u_C_hourglassref10_Of_k1 {C : CallW} {P : Program} {rd : Bool} {is : List Item} {fr : Fr} {σ : St} {K : KC} : runC C P rd C_hourglassref10_Of_k1 is fr σ K = runC C P rd (.seq (.sq [⟨some 15, none, .loadA 16 (.t 4)⟩,
      ⟨none, none, .store 16 (.t 2) (.t 15)⟩,
      ⟨some 3, none, .mv true (.c (.bool false))⟩]) .ret) is fr σ K := (rfl)
def C_hourglassref10_Of_k2 : LCode := (.seq (.sq [⟨some 26, none, .build zk []⟩,
            ⟨none, none, .store 16 (.t 2) (.t 26)⟩,
            ⟨some 3, none, .mv true (.c (.bool false))⟩]) .ret)
theorem u_C_hourglassref10_Of_k2 {C : CallW} {P : Program} {rd : Bool} {is : List Item} {fr : Fr} {σ : St} {K : KC} : runC C P rd C_hourglassref10_Of_k2 is fr σ K = runC C P rd (.seq (.sq [⟨some 26, none, .build zk []⟩,
            ⟨none, none, .store 16 (.t 2) (.t 26)⟩,
            ⟨some 3, none, .mv true (.c (.bool false))⟩]) .ret) is fr σ K := (rfl)
def C_hourglassref10_Of_k3 : LCode := (.sq [⟨some 27, none, .mv false (.t 5)⟩,
          ⟨some 28, none, .mv false (.t 0)⟩,
          ⟨some 29, none, .mv false (.t 5)⟩,
          ⟨some 30, none, .ixs (.t 28) (.t 29)⟩,
          ⟨some 31, none, .ixa (.arr 16 1) (.t 4) (.t 27)⟩,
          ⟨none, none, .store 1 (.t 31) (.t 30)⟩])
theorem u_C_hourglassref10_Of_k3 {C : CallW} {P : Program} {rd : Bool} {is : List Item} {fr : Fr} {σ : St} {K : KC} : runC C P rd C_hourglassref10_Of_k3 is fr σ K = runC C P rd (.sq [⟨some 27, none, .mv false (.t 5)⟩,
          ⟨some 28, none, .mv false (.t 0)⟩,
          ⟨some 29, none, .mv false (.t 5)⟩,
          ⟨some 30, none, .ixs (.t 28) (.t 29)⟩,
          ⟨some 31, none, .ixa (.arr 16 1) (.t 4) (.t 27)⟩,
          ⟨none, none, .store 1 (.t 31) (.t 30)⟩]) is fr σ K := (rfl)
def C_hourglassref10_Of_k4 : LCode := (.sq [⟨some 20, none, .mv false (.t 5)⟩,
        ⟨some 21, none, .bin .add .sc (.t 20) (.c (.int .i64 1))⟩,
        ⟨some 5, none, .mv true (.t 21)⟩])
theorem u_C_hourglassref10_Of_k4 {C : CallW} {P : Program} {rd : Bool} {is : List Item} {fr : Fr} {σ : St} {K : KC} : runC C P rd C_hourglassref10_Of_k4 is fr σ K = runC C P rd (.sq [⟨some 20, none, .mv false (.t 5)⟩,
        ⟨some 21, none, .bin .add .sc (.t 20) (.c (.int .i64 1))⟩,
        ⟨some 5, none, .mv true (.t 21)⟩]) is fr σ K := (rfl)
def C_hourglassref10_Of_k5 : LCode := (.seq (.block 1 (.seq (.seq (.sq [⟨some 22, none, .mv false (.t 0)⟩,
          ⟨some 23, none, .mv false (.t 5)⟩,
          ⟨some 24, none, .ixs (.t 22) (.t 23)⟩,
          ⟨some 25, none, .bin .eql .sc (.t 24) (.c (.int .u8 0))⟩]) (.cond (.t 25) C_hourglassref10_Of_k2 .skip)) C_hourglassref10_Of_k3)) C_hourglassref10_Of_k4)
theorem u_C_hourglassref10_Of_k5 {C : CallW} {P : Program} {rd : Bool} {is : List Item} {fr : Fr} {σ : St} {K : KC} : runC C P rd C_hourglassref10_Of_k5 is fr σ K = runC C P rd (.seq (.block 1 (.seq (.seq (.sq [⟨some 22, none, .mv false (.t 0)⟩,
          ⟨some 23, none, .mv false (.t 5)⟩,
          ⟨some 24, none, .ixs (.t 22) (.t 23)⟩,
          ⟨some 25, none, .bin .eql .sc (.t 24) (.c (.int .u8 0))⟩]) (.cond (.t 25) C_hourglassref10_Of_k2 .skip)) C_hourglassref10_Of_k3)) C_hourglassref10_Of_k4) is fr σ K := (rfl)
def C_hourglassref10_Of_k6 : LCode := (.seq (.seq (.sq [⟨some 16, none, .mv false (.t 5)⟩,
        ⟨some 17, none, .mv false (.t 0)⟩,
        ⟨some 18, none, .len .str (.t 17)⟩,
        ⟨some 19, none, .bin .lss .sc (.t 16) (.t 18)⟩]) (.cond (.t 19) .skip (.exit 0))) C_hourglassref10_Of_k5)
theorem u_C_hourglassref10_Of_k6 {C : CallW} {P : Program} {rd : Bool} {is : List Item} {fr : Fr} {σ : St} {K : KC} : runC C P rd C_hourglassref10_Of_k6 is fr σ K = runC C P rd (.seq (.seq (.sq [⟨some 16, none, .mv false (.t 5)⟩,
        ⟨some 17, none, .mv false (.t 0)⟩,
        ⟨some 18, none, .len .str (.t 17)⟩,
        ⟨some 19, none, .bin .lss .sc (.t 16) (.t 18)⟩]) (.cond (.t 19) .skip (.exit 0))) C_hourglassref10_Of_k5) is fr σ K := (rfl)
def C_hourglassref10_Of_k7 : LCode := (.block 0 (.loop [true, false, true, false, true, true, false, false, false, false, false, false, false, false, false, false, false, false, false, false, false, false, false, false, false, false, false, false, false, false, false, false, false] C_hourglassref10_Of_k6))
theorem u_C_hourglassref10_Of_k7 {C : CallW} {P : Program} {rd : Bool} {is : List Item} {fr : Fr} {σ : St} {K : KC} : runC C P rd C_hourglassref10_Of_k7 is fr σ K = runC C P rd (.block 0 (.loop [true, false, true, false, true, true, false, false, false, false, false, false, false, false, false, false, false, false, false, false, false, false, false, false, false, false, false, false, false, false, false, false, false] C_hourglassref10_Of_k6)) is fr σ K := (rfl)
def C_hourglassref10_Of_k8 : LCode := (.seq (.sq [⟨some 32, none, .loadA 16 (.t 4)⟩,
    ⟨none, none, .store 16 (.t 2) (.t 32)⟩,
    ⟨some 3, none, .mv true (.c (.bool true))⟩]) .ret)
theorem u_C_hourglassref10_Of_k8 {C : CallW} {P : Program} {rd : Bool} {is : List Item} {fr : Fr} {σ : St} {K : KC} : runC C P rd C_hourglassref10_Of_k8 is fr σ K = runC C P rd (.seq (.sq [⟨some 32, none, .loadA 16 (.t 4)⟩,
    ⟨none, none, .store 16 (.t 2) (.t 32)⟩,
    ⟨some 3, none, .mv true (.c (.bool true))⟩]) .ret) is fr σ K := (rfl)
def C_hourglassref10_Of_k9 : LCode := (.seq (.seq (.sq [⟨some 7, none, .mv false (.t 0)⟩,
    ⟨some 8, none, .len .str (.t 7)⟩,
    ⟨some 9, none, .bin .lss .sc (.t 8) (.c (.int .i64 1))⟩,
    ⟨some 10, none, .mv false (.t 9)⟩,
    ⟨some 11, some (10, false), .mv false (.t 0)⟩,
    ⟨some 12, some (10, false), .len .str (.t 11)⟩,
    ⟨some 13, some (10, false), .bin .gtr .sc (.t 12) (.c (.int .i64 16))⟩,
    ⟨some 14, none, .pick (.t 10) (.c (.bool true)) (.t 13)⟩]) (.cond (.t 14) C_hourglassref10_Of_k1 .skip)) (.seq (.seq (.sq [⟨some 5, none, .mv true (.c (.int .i64 0))⟩]) C_hourglassref10_Of_k7) C_hourglassref10_Of_k8))
theorem u_C_hourglassref10_Of_k9 {C : CallW} {P : Program} {rd : Bool} {is : List Item} {fr : Fr} {σ : St} {K : KC} : runC C P rd C_hourglassref10_Of_k9 is fr σ K = runC C P rd (.seq (.seq (.sq [⟨some 7, none, .mv false (.t 0)⟩,
    ⟨some 8, none, .len .str (.t 7)⟩,
    ⟨some 9, none, .bin .lss .sc (.t 8) (.c (.int .i64 1))⟩,
    ⟨some 10, none, .mv false (.t 9)⟩,
    ⟨some 11, some (10, false), .mv false (.t 0)⟩,
    ⟨some 12, some (10, false), .len .str (.t 11)⟩,
    ⟨some 13, some (10, false), .bin .gtr .sc (.t 12) (.c (.int .i64 16))⟩,
    ⟨some 14, none, .pick (.t 10) (.c (.bool true)) (.t 13)⟩]) (.cond (.t 14) C_hourglassref10_Of_k1 .skip)) (.seq (.seq (.sq [⟨some 5, none, .mv true (.c (.int .i64 0))⟩]) C_hourglassref10_Of_k7) C_hourglassref10_Of_k8)) is fr σ K := (rfl)
def C_hourglassref10_Of_k10 : LCode := (.seq (.sq [⟨some 6, none, .build zk []⟩,
    ⟨some 4, none, .alloc false zk⟩,
    ⟨none, none, .store 16 (.t 4) (.t 6)⟩]) C_hourglassref10_Of_k9)
theorem u_C_hourglassref10_Of_k10 {C : CallW} {P : Program} {rd : Bool} {is : List Item} {fr : Fr} {σ : St} {K : KC} : runC C P rd C_hourglassref10_Of_k10 is fr σ K = runC C P rd (.seq (.sq [⟨some 6, none, .build zk []⟩,
    ⟨some 4, none, .alloc false zk⟩,
    ⟨none, none, .store 16 (.t 4) (.t 6)⟩]) C_hourglassref10_Of_k9) is fr σ K := (rfl)
def C_hourglassref10_Of : LFn :=
  ⟨33, [.many 2 16, .t 3], (.seq (.sq [⟨some 2, none, .alloc false zk⟩,
    ⟨some 3, none, .mv true (.c (.bool false))⟩]) C_hourglassref10_Of_k10)⟩

def C_hourglassref10_Good_k1 : LCode := (.seq (.sq [⟨some 13, none, .mv false (.t 3)⟩]) (.cond (.t 13) (.seq (.sq [⟨some 2, none, .mv true (.c (.bool false))⟩]) .ret) .skip))
theorem u_C_hourglassref10_Good_k1 {C : CallW} {P : Program} {rd : Bool} {is : List Item} {fr : Fr} {σ : St} {K : KC} : runC C P rd C_hourglassref10_Good_k1 is fr σ K = runC C P rd (.seq (.sq [⟨some 13, none, .mv false (.t 3)⟩]) (.cond (.t 13) (.seq (.sq [⟨some 2, none, .mv true (.c (.bool false))⟩]) .ret) .skip)) is fr σ K := (rfl)
def C_hourglassref10_Good_k2 : LCode := (.sq [⟨some 7, none, .mv false (.t 4)⟩,
        ⟨some 8, none, .bin .add .sc (.t 7) (.c (.int .i64 1))⟩,
        ⟨some 4, none, .mv true (.t 8)⟩])
theorem u_C_hourglassref10_Good_k2 {C : CallW} {P : Program} {rd : Bool} {is : List Item} {fr : Fr} {σ : St} {K : KC} : runC C P rd C_hourglassref10_Good_k2 is fr σ K = runC C P rd (.sq [⟨some 7, none, .mv false (.t 4)⟩,
        ⟨some 8, none, .bin .add .sc (.t 7) (.c (.int .i64 1))⟩,
        ⟨some 4, none, .mv true (.t 8)⟩]) is fr σ K := (rfl)
def C_hourglassref10_Good_k3 : LCode := (.seq (.block 1 (.seq (.sq [⟨some 9, none, .mv false (.t 4)⟩,
          ⟨some 10, none, .ixa (.arr 16 1) (.t 1) (.t 9)⟩,
          ⟨some 11, none, .load1 false (.t 10)⟩,
          ⟨some 12, none, .bin .eql .sc (.t 11) (.c (.int .u8 0))⟩]) (.cond (.t 12) (.sq [⟨some 3, none, .mv true (.c (.bool true))⟩]) C_hourglassref10_Good_k1))) C_hourglassref10_Good_k2)
theorem u_C_hourglassref10_Good_k3 {C : CallW} {P : Program} {rd : Bool} {is : List Item} {fr : Fr} {σ : St} {K : KC} : runC C P rd C_hourglassref10_Good_k3 is fr σ K = runC C P rd (.seq (.block 1 (.seq (.sq [⟨some 9, none, .mv false (.t 4)⟩,
          ⟨some 10, none, .ixa (.arr 16 1) (.t 1) (.t 9)⟩,
          ⟨some 11, none, .load1 false (.t 10)⟩,
          ⟨some 12, none, .bin .eql .sc (.t 11) (.c (.int .u8 0))⟩]) (.cond (.t 12) (.sq [⟨some 3, none, .mv true (.c (.bool true))⟩]) C_hourglassref10_Good_k1))) C_hourglassref10_Good_k2) is fr σ K := (rfl)
def C_hourglassref10_Good_k4 : LCode := (.seq (.seq (.sq [⟨some 5, none, .mv false (.t 4)⟩,
        ⟨some 6, none, .bin .lss .sc (.t 5) (.c (.int .i64 16))⟩]) (.cond (.t 6) .skip (.exit 0))) C_hourglassref10_Good_k3)
theorem u_C_hourglassref10_Good_k4 {C : CallW} {P : Program} {rd : Bool} {is : List Item} {fr : Fr} {σ : St} {K : KC} : runC C P rd C_hourglassref10_Good_k4 is fr σ K = runC C P rd (.seq (.seq (.sq [⟨some 5, none, .mv false (.t 4)⟩,
        ⟨some 6, none, .bin .lss .sc (.t 5) (.c (.int .i64 16))⟩]) (.cond (.t 6) .skip (.exit 0))) C_hourglassref10_Good_k3) is fr σ K := (rfl)
def C_hourglassref10_Good_k5 : LCode := (.block 0 (.loop [false, true, false, true, true, false, false, false, false, false, false, false, false, false, false, false, false] C_hourglassref10_Good_k4))
theorem u_C_hourglassref10_Good_k5 {C : CallW} {P : Program} {rd : Bool} {is : List Item} {fr : Fr} {σ : St} {K : KC} : runC C P rd C_hourglassref10_Good_k5 is fr σ K = runC C P rd (.block 0 (.loop [false, true, false, true, true, false, false, false, false, false, false, false, false, false, false, false, false] C_hourglassref10_Good_k4)) is fr σ K := (rfl)
def C_hourglassref10_Good_k6 : LCode := (.seq (.sq [⟨some 14, none, .ixa (.arr 16 1) (.t 1) (.c (.int .i64 0))⟩,
    ⟨some 15, none, .load1 false (.t 14)⟩,
    ⟨some 16, none, .bin .neq .sc (.t 15) (.c (.int .u8 0))⟩,
    ⟨some 2, none, .mv true (.t 16)⟩]) .ret)
theorem u_C_hourglassref10_Good_k6 {C : CallW} {P : Program} {rd : Bool} {is : List Item} {fr : Fr} {σ : St} {K : KC} : runC C P rd C_hourglassref10_Good_k6 is fr σ K = runC C P rd (.seq (.sq [⟨some 14, none, .ixa (.arr 16 1) (.t 1) (.c (.int .i64 0))⟩,
    ⟨some 15, none, .load1 false (.t 14)⟩,
    ⟨some 16, none, .bin .neq .sc (.t 15) (.c (.int .u8 0))⟩,
    ⟨some 2, none, .mv true (.t 16)⟩]) .ret) is fr σ K := (rfl)
def C_hourglassref10_Good_k7 : LCode := (.seq (.sq [⟨some 3, none, .mv true (.c (.bool false))⟩]) (.seq (.seq (.sq [⟨some 4, none, .mv true (.c (.int .i64 0))⟩]) C_hourglassref10_Good_k5) C_hourglassref10_Good_k6))
theorem u_C_hourglassref10_Good_k7 {C : CallW} {P : Program} {rd : Bool} {is : List Item} {fr : Fr} {σ : St} {K : KC} : runC C P rd C_hourglassref10_Good_k7 is fr σ K = runC C P rd (.seq (.sq [⟨some 3, none, .mv true (.c (.bool false))⟩]) (.seq (.seq (.sq [⟨some 4, none, .mv true (.c (.int .i64 0))⟩]) C_hourglassref10_Good_k5) C_hourglassref10_Good_k6)) is fr σ K := (rfl)
def C_hourglassref10_Good : LFn :=
  ⟨17, [.t 2], (.seq (.sq [⟨some 1, none, .box false false (.t 0)⟩,
    ⟨some 2, none, .mv true (.c (.bool false))⟩]) C_hourglassref10_Good_k7)⟩

def C_hourglassref10_Cmp_k1 : LCode := (.seq (.tree (.rd ⟨some 17, none, .mv false (.t 5)⟩ 0 false (.rd ⟨some 18, none, .ixa (.arr 16 1) (.t 2) (.t 17)⟩ 1 false (.rd ⟨some 19, none, .load1 false (.t 18)⟩ 2 false (.rd ⟨some 20, none, .mv false (.t 5)⟩ 3 false (.rd ⟨some 21, none, .ixa (.arr 16 1) (.t 3) (.t 20)⟩ 4 false (.rd ⟨some 22, none, .load1 false (.t 21)⟩ 5 false (.rd ⟨some 23, none, .bin .gtr .sc (.t 19) (.t 22)⟩ 6 false .done)))))))) (.cond (.t 23) (.seq (.sq [⟨some 4, none, .mv true (.c (.int .i64 1))⟩]) .ret) .skip))
theorem u_C_hourglassref10_Cmp_k1 {C : CallW} {P : Program} {rd : Bool} {is : List Item} {fr : Fr} {σ : St} {K : KC} : runC C P rd C_hourglassref10_Cmp_k1 is fr σ K = runC C P rd (.seq (.tree (.rd ⟨some 17, none, .mv false (.t 5)⟩ 0 false (.rd ⟨some 18, none, .ixa (.arr 16 1) (.t 2) (.t 17)⟩ 1 false (.rd ⟨some 19, none, .load1 false (.t 18)⟩ 2 false (.rd ⟨some 20, none, .mv false (.t 5)⟩ 3 false (.rd ⟨some 21, none, .ixa (.arr 16 1) (.t 3) (.t 20)⟩ 4 false (.rd ⟨some 22, none, .load1 false (.t 21)⟩ 5 false (.rd ⟨some 23, none, .bin .gtr .sc (.t 19) (.t 22)⟩ 6 false .done)))))))) (.cond (.t 23) (.seq (.sq [⟨some 4, none, .mv true (.c (.int .i64 1))⟩]) .ret) .skip)) is fr σ K := (rfl)
def C_hourglassref10_Cmp_k2 : LCode := (.sq [⟨some 8, none, .mv false (.t 5)⟩,
        ⟨some 9, none, .bin .add .sc (.t 8) (.c (.int .i64 1))⟩,
        ⟨some 5, none, .mv true (.t 9)⟩])
theorem u_C_hourglassref10_Cmp_k2 {C : CallW} {P : Program} {rd : Bool} {is : List Item} {fr : Fr} {σ : St} {K : KC} : runC C P rd C_hourglassref10_Cmp_k2 is fr σ K = runC C P rd (.sq [⟨some 8, none, .mv false (.t 5)⟩,
        ⟨some 9, none, .bin .add .sc (.t 8) (.c (.int .i64 1))⟩,
        ⟨some 5, none, .mv true (.t 9)⟩]) is fr σ K := (rfl)
def C_hourglassref10_Cmp_k3 : LCode := (.seq (.block 1 (.seq (.seq (.tree (.rd ⟨some 10, none, .mv false (.t 5)⟩ 0 false (.rd ⟨some 11, none, .ixa (.arr 16 1) (.t 2) (.t 10)⟩ 1 false (.rd ⟨some 12, none, .load1 false (.t 11)⟩ 2 false (.rd ⟨some 13, none, .mv false (.t 5)⟩ 3 false (.rd ⟨some 14, none, .ixa (.arr 16 1) (.t 3) (.t 13)⟩ 4 false (.rd ⟨some 15, none, .load1 false (.t 14)⟩ 5 false (.rd ⟨some 16, none, .bin .lss .sc (.t 12) (.t 15)⟩ 6 false .done)))))))) (.cond (.t 16) (.seq (.sq [⟨some 4, none, .mv true (.c (.int .i64 (-1)))⟩]) .ret) .skip)) C_hourglassref10_Cmp_k1)) C_hourglassref10_Cmp_k2)
theorem u_C_hourglassref10_Cmp_k3 {C : CallW} {P : Program} {rd : Bool} {is : List Item} {fr : Fr} {σ : St} {K : KC} : runC C P rd C_hourglassref10_Cmp_k3 is fr σ K = runC C P rd (.seq (.block 1 (.seq (.seq (.tree (.rd ⟨some 10, none, .mv false (.t 5)⟩ 0 false (.rd ⟨some 11, none, .ixa (.arr 16 1) (.t 2) (.t 10)⟩ 1 false (.rd ⟨some 12, none, .load1 false (.t 11)⟩ 2 false (.rd ⟨some 13, none, .mv false (.t 5)⟩ 3 false (.rd ⟨some 14, none, .ixa (.arr 16 1) (.t 3) (.t 13)⟩ 4 false (.rd ⟨some 15, none, .load1 false (.t 14)⟩ 5 false (.rd ⟨some 16, none, .bin .lss .sc (.t 12) (.t 15)⟩ 6 false .done)))))))) (.cond (.t 16) (.seq (.sq [⟨some 4, none, .mv true (.c (.int .i64 (-1)))⟩]) .ret) .skip)) C_hourglassref10_Cmp_k1)) C_hourglassref10_Cmp_k2) is fr σ K := (rfl)
def C_hourglassref10_Cmp_k4 : LCode := (.seq (.seq (.sq [⟨some 6, none, .mv false (.t 5)⟩,
        ⟨some 7, none, .bin .lss .sc (.t 6) (.c (.int .i64 16))⟩]) (.cond (.t 7) .skip (.exit 0))) C_hourglassref10_Cmp_k3)
theorem u_C_hourglassref10_Cmp_k4 {C : CallW} {P : Program} {rd : Bool} {is : List Item} {fr : Fr} {σ : St} {K : KC} : runC C P rd C_hourglassref10_Cmp_k4 is fr σ K = runC C P rd (.seq (.seq (.sq [⟨some 6, none, .mv false (.t 5)⟩,
        ⟨some 7, none, .bin .lss .sc (.t 6) (.c (.int .i64 16))⟩]) (.cond (.t 7) .skip (.exit 0))) C_hourglassref10_Cmp_k3) is fr σ K := (rfl)
def C_hourglassref10_Cmp_k5 : LCode := (.block 0 (.loop [false, false, true, true, false, true, false, false, false, false, false, false, false, false, false, false, false, false, false, false, false, false, false, false] C_hourglassref10_Cmp_k4))
theorem u_C_hourglassref10_Cmp_k5 {C : CallW} {P : Program} {rd : Bool} {is : List Item} {fr : Fr} {σ : St} {K : KC} : runC C P rd C_hourglassref10_Cmp_k5 is fr σ K = runC C P rd (.block 0 (.loop [false, false, true, true, false, true, false, false, false, false, false, false, false, false, false, false, false, false, false, false, false, false, false, false] C_hourglassref10_Cmp_k4)) is fr σ K := (rfl)
def C_hourglassref10_Cmp_k6 : LCode := (.seq (.seq (.sq [⟨some 5, none, .mv true (.c (.int .i64 0))⟩]) C_hourglassref10_Cmp_k5) (.seq (.sq [⟨some 4, none, .mv true (.c (.int .i64 0))⟩]) .ret))
theorem u_C_hourglassref10_Cmp_k6 {C : CallW} {P : Program} {rd : Bool} {is : List Item} {fr : Fr} {σ : St} {K : KC} : runC C P rd C_hourglassref10_Cmp_k6 is fr σ K = runC C P rd (.seq (.seq (.sq [⟨some 5, none, .mv true (.c (.int .i64 0))⟩]) C_hourglassref10_Cmp_k5) (.seq (.sq [⟨some 4, none, .mv true (.c (.int .i64 0))⟩]) .ret)) is fr σ K := (rfl)
def C_hourglassref10_Cmp : LFn :=
  ⟨24, [.t 4], (.seq (.sq [⟨some 2, none, .box false false (.t 0)⟩,
    ⟨some 3, none, .box false false (.t 1)⟩,
    ⟨some 4, none, .mv true (.c (.int .i64 0))⟩]) C_hourglassref10_Cmp_k6)⟩

def C_hourglassref10_Within_k1 (f_hourglassref10_Cmp : FuncId) : LCode := (.seq (.sq [⟨some 7, none, .loadA 16 (.t 3)⟩,
    ⟨some 8, none, .loadA 16 (.t 4)⟩,
    ⟨some 9, none, .call (.f f_hourglassref10_Cmp) [(.t 7), (.t 8)]⟩,
    ⟨some 10, none, .bin .geq .sc (.t 9) (.c (.int .i64 0))⟩,
    ⟨some 11, none, .mv false (.t 10)⟩,
    ⟨some 12, some (11, true), .loadA 16 (.t 5)⟩,
    ⟨some 13, some (11, true), .build zk []⟩,
    ⟨some 14, some (11, true), .bin .eql (.leaf lk) (.t 12) (.t 13)⟩,
    ⟨some 15, some (11, true), .mv false (.t 14)⟩,
    ⟨some 16, some (15, false), .loadA 16 (.t 3)⟩,
    ⟨some 17, some (15, false), .loadA 16 (.t 5)⟩,
    ⟨some 18, some (15, false), .call (.f f_hourglassref10_Cmp) [(.t 16), (.t 17)]⟩,
    ⟨some 19, some (15, false), .bin .lss .sc (.t 18) (.c (.int .i64 0))⟩,
    ⟨some 20, some (11, true), .pick (.t 15) (.c (.bool true)) (.t 19)⟩,
    ⟨some 21, none, .pick (.t 11) (.t 20) (.c (.bool false))⟩,
    ⟨some 6, none, .mv true (.t 21)⟩]) .ret)
theorem u_C_hourglassref10_Within_k1 {C : CallW} {P : Program} {rd : Bool} {is : List Item} {fr : Fr} {σ : St} {K : KC} (f_hourglassref10_Cmp : FuncId) : runC C P rd (C_hourglassref10_Within_k1 f_hourglassref10_Cmp) is fr σ K = runC C P rd (.seq (.sq [⟨some 7, none, .loadA 16 (.t 3)⟩,
    ⟨some 8, none, .loadA 16 (.t 4)⟩,
    ⟨some 9, none, .call (.f f_hourglassref10_Cmp) [(.t 7), (.t 8)]⟩,
    ⟨some 10, none, .bin .geq .sc (.t 9) (.c (.int .i64 0))⟩,
    ⟨some 11, none, .mv false (.t 10)⟩,
    ⟨some 12, some (11, true), .loadA 16 (.t 5)⟩,
    ⟨some 13, some (11, true), .build zk []⟩,
    ⟨some 14, some (11, true), .bin .eql (.leaf lk) (.t 12) (.t 13)⟩,
    ⟨some 15, some (11, true), .mv false (.t 14)⟩,
    ⟨some 16, some (15, false), .loadA 16 (.t 3)⟩,
    ⟨some 17, some (15, false), .loadA 16 (.t 5)⟩,
    ⟨some 18, some (15, false), .call (.f f_hourglassref10_Cmp) [(.t 16), (.t 17)]⟩,
    ⟨some 19, some (15, false), .bin .lss .sc (.t 18) (.c (.int .i64 0))⟩,
    ⟨some 20, some (11, true), .pick (.t 15) (.c (.bool true)) (.t 19)⟩,
    ⟨some 21, none, .pick (.t 11) (.t 20) (.c (.bool false))⟩,
    ⟨some 6, none, .mv true (.t 21)⟩]) .ret) is fr σ K := (rfl)
def C_hourglassref10_Within (f_hourglassref10_Cmp : FuncId) : LFn :=
  ⟨22, [.t 6], (.seq (.sq [⟨some 3, none, .box false false (.t 0)⟩,
    ⟨some 4, none, .box false false (.t 1)⟩,
    ⟨some 5, none, .box false false (.t 2)⟩,
    ⟨some 6, none, .mv true (.c (.bool false))⟩]) (C_hourglassref10_Within_k1 f_hourglassref10_Cmp))⟩

def C_slices_Clone_Key_k1 : LCode := (.seq (.sq [⟨some 5, none, .bsl ⟨16, true, 16, (.agg zk)⟩ 0 []⟩,
    ⟨some 6, none, .mv false (.t 0)⟩,
    ⟨some 7, none, .app ⟨16, true, 16, (.agg zk)⟩ false (.t 5) (.t 6)⟩,
    ⟨some 2, none, .mv true (.t 7)⟩]) .ret)
theorem u_C_slices_Clone_Key_k1 {C : CallW} {P : Program} {rd : Bool} {is : List Item} {fr : Fr} {σ : St} {K : KC} : runC C P rd C_slices_Clone_Key_k1 is fr σ K = runC C P rd (.seq (.sq [⟨some 5, none, .bsl ⟨16, true, 16, (.agg zk)⟩ 0 []⟩,
    ⟨some 6, none, .mv false (.t 0)⟩,
    ⟨some 7, none, .app ⟨16, true, 16, (.agg zk)⟩ false (.t 5) (.t 6)⟩,
    ⟨some 2, none, .mv true (.t 7)⟩]) .ret) is fr σ K := (rfl)
def C_slices_Clone_Key_k2 : LCode := (.seq (.seq (.sq [⟨some 3, none, .mv false (.t 0)⟩,
    ⟨some 4, none, .bin .eql (.ref 1) (.t 3) (.c .nilS)⟩]) (.cond (.t 4) (.seq (.sq [⟨some 2, none, .mv true (.c .nilS)⟩]) .ret) .skip)) C_slices_Clone_Key_k1)
theorem u_C_slices_Clone_Key_k2 {C : CallW} {P : Program} {rd : Bool} {is : List Item} {fr : Fr} {σ : St} {K : KC} : runC C P rd C_slices_Clone_Key_k2 is fr σ K = runC C P rd (.seq (.seq (.sq [⟨some 3, none, .mv false (.t 0)⟩,
    ⟨some 4, none, .bin .eql (.ref 1) (.t 3) (.c .nilS)⟩]) (.cond (.t 4) (.seq (.sq [⟨some 2, none, .mv true (.c .nilS)⟩]) .ret) .skip)) C_slices_Clone_Key_k1) is fr σ K := (rfl)
def C_slices_Clone_Key : LFn :=
  ⟨8, [.t 2], (.seq (.sq [⟨some 2, none, .mv true (.c .nilS)⟩]) C_slices_Clone_Key_k2)⟩

def C_route_New_k1 (f_key_Good f_key_Cmp f_slices_Clone_Key : FuncId) : LCode := (.cond (.t 29) (.seq (.sq [⟨some 2, none, .mv true (.c .nilP)⟩,
            ⟨some 3, none, .mv true (.c (.int .i64 1))⟩]) .ret) .skip)
theorem u_C_route_New_k1 {C : CallW} {P : Program} {rd : Bool} {is : List Item} {fr : Fr} {σ : St} {K : KC} (f_key_Good f_key_Cmp f_slices_Clone_Key : FuncId) : runC C P rd (C_route_New_k1 f_key_Good f_key_Cmp f_slices_Clone_Key) is fr σ K = runC C P rd (.cond (.t 29) (.seq (.sq [⟨some 2, none, .mv true (.c .nilP)⟩,
            ⟨some 3, none, .mv true (.c (.int .i64 1))⟩]) .ret) .skip) is fr σ K := (rfl)
def C_route_New_k2 (f_key_Good f_key_Cmp f_slices_Clone_Key : FuncId) : LCode := (.seq (.tree (.rd ⟨some 13, none, .loadA 16 (.t 5)⟩ 0 false (.mv ⟨some 14, none, .call (.f f_key_Good) [(.t 13)]⟩ [0] (.rd ⟨some 15, none, .un .not (.t 14)⟩ 2 false (.rd ⟨some 16, none, .mv false (.t 15)⟩ 3 false (.rd ⟨some 17, some (16, false), .mv false (.t 4)⟩ 4 false (.rd ⟨some 18, some (16, false), .bin .gtr .sc (.t 17) (.c (.int .i64 0))⟩ 5 false (.rd ⟨some 19, some (16, false), .mv false (.t 18)⟩ 6 false (.rd ⟨some 20, some (19, true), .mv false (.t 0)⟩ 7 false (.rd ⟨some 21, some (19, true), .mv false (.t 4)⟩ 8 false (.rd ⟨some 22, some (19, true), .bin .sub .sc (.t 21) (.c (.int .i64 1))⟩ 9 false (.rd ⟨some 23, some (19, true), .ixa (.sl 16) (.t 20) (.t 22)⟩ 10 false (.rd ⟨some 24, some (19, true), .loadA 16 (.t 23)⟩ 11 false (.rd ⟨some 25, some (19, true), .loadA 16 (.t 5)⟩ 12 false (.mv ⟨some 26, some (19, true), .call (.f f_key_Cmp) [(.t 24), (.t 25)]⟩ [0, 1, 2, 3, 4, 5, 6, 7, 8, 9, 10, 11, 12] (.rd ⟨some 27, some (19, true), .bin .geq .sc (.t 26) (.c (.int .i64 0))⟩ 14 false (.rd ⟨some 28, some (16, false), .pick (.t 19) (.t 27) (.c (.bool false))⟩ 15 false (.rd ⟨some 29, none, .pick (.t 16) (.c (.bool true)) (.t 28)⟩ 16 false .done))) .stop)))))))))))) .stop))) (C_route_New_k1 f_key_Good f_key_Cmp f_slices_Clone_Key))
theorem u_C_route_New_k2 {C : CallW} {P : Program} {rd : Bool} {is : List Item} {fr : Fr} {σ : St} {K : KC} (f_key_Good f_key_Cmp f_slices_Clone_Key : FuncId) : runC C P rd (C_route_New_k2 f_key_Good f_key_Cmp f_slices_Clone_Key) is fr σ K = runC C P rd (.seq (.tree (.rd ⟨some 13, none, .loadA 16 (.t 5)⟩ 0 false (.mv ⟨some 14, none, .call (.f f_key_Good) [(.t 13)]⟩ [0] (.rd ⟨some 15, none, .un .not (.t 14)⟩ 2 false (.rd ⟨some 16, none, .mv false (.t 15)⟩ 3 false (.rd ⟨some 17, some (16, false), .mv false (.t 4)⟩ 4 false (.rd ⟨some 18, some (16, false), .bin .gtr .sc (.t 17) (.c (.int .i64 0))⟩ 5 false (.rd ⟨some 19, some (16, false), .mv false (.t 18)⟩ 6 false (.rd ⟨some 20, some (19, true), .mv false (.t 0)⟩ 7 false (.rd ⟨some 21, some (19, true), .mv false (.t 4)⟩ 8 false (.rd ⟨some 22, some (19, true), .bin .sub .sc (.t 21) (.c (.int .i64 1))⟩ 9 false (.rd ⟨some 23, some (19, true), .ixa (.sl 16) (.t 20) (.t 22)⟩ 10 false (.rd ⟨some 24, some (19, true), .loadA 16 (.t 23)⟩ 11 false (.rd ⟨some 25, some (19, true), .loadA 16 (.t 5)⟩ 12 false (.mv ⟨some 26, some (19, true), .call (.f f_key_Cmp) [(.t 24), (.t 25)]⟩ [0, 1, 2, 3, 4, 5, 6, 7, 8, 9, 10, 11, 12] (.rd ⟨some 27, some (19, true), .bin .geq .sc (.t 26) (.c (.int .i64 0))⟩ 14 false (.rd ⟨some 28, some (16, false), .pick (.t 19) (.t 27) (.c (.bool false))⟩ 15 false (.rd ⟨some 29, none, .pick (.t 16) (.c (.bool true)) (.t 28)⟩ 16 false .done))) .stop)))))))))))) .stop))) (C_route_New_k1 f_key_Good f_key_Cmp f_slices_Clone_Key)) is fr σ K := (rfl)
def C_route_New_k3 (f_key_Good f_key_Cmp f_slices_Clone_Key : FuncId) : LCode := (.seq (.block 1 (.seq (.sq [⟨some 10, none, .mv false (.t 8)⟩,
          ⟨some 11, none, .ixa (.sl 16) (.t 6) (.t 8)⟩,
          ⟨some 12, none, .loadA 16 (.t 11)⟩,
          ⟨some 5, none, .alloc false zk⟩,
          ⟨some 4, none, .mv true (.t 10)⟩,
          ⟨none, none, .store 16 (.t 5) (.t 12)⟩]) (C_route_New_k2 f_key_Good f_key_Cmp f_slices_Clone_Key))) (.sq [⟨some 30, none, .bin .add .sc (.t 8) (.c (.int .i64 1))⟩,
        ⟨some 8, none, .mv false (.t 30)⟩]))
theorem u_C_route_New_k3 {C : CallW} {P : Program} {rd : Bool} {is : List Item} {fr : Fr} {σ : St} {K : KC} (f_key_Good f_key_Cmp f_slices_Clone_Key : FuncId) : runC C P rd (C_route_New_k3 f_key_Good f_key_Cmp f_slices_Clone_Key) is fr σ K = runC C P rd (.seq (.block 1 (.seq (.sq [⟨some 10, none, .mv false (.t 8)⟩,
          ⟨some 11, none, .ixa (.sl 16) (.t 6) (.t 8)⟩,
          ⟨some 12, none, .loadA 16 (.t 11)⟩,
          ⟨some 5, none, .alloc false zk⟩,
          ⟨some 4, none, .mv true (.t 10)⟩,
          ⟨none, none, .store 16 (.t 5) (.t 12)⟩]) (C_route_New_k2 f_key_Good f_key_Cmp f_slices_Clone_Key))) (.sq [⟨some 30, none, .bin .add .sc (.t 8) (.c (.int .i64 1))⟩,
        ⟨some 8, none, .mv false (.t 30)⟩])) is fr σ K := (rfl)
def C_route_New_k4 (f_key_Good f_key_Cmp f_slices_Clone_Key : FuncId) : LCode := (.seq (.sq [⟨some 9, none, .bin .lss .sc (.t 8) (.t 7)⟩]) (.seq (.cond (.t 9) .skip (.exit 0)) (C_route_New_k3 f_key_Good f_key_Cmp f_slices_Clone_Key)))
theorem u_C_route_New_k4 {C : CallW} {P : Program} {rd : Bool} {is : List Item} {fr : Fr} {σ : St} {K : KC} (f_key_Good f_key_Cmp f_slices_Clone_Key : FuncId) : runC C P rd (C_route_New_k4 f_key_Good f_key_Cmp f_slices_Clone_Key) is fr σ K = runC C P rd (.seq (.sq [⟨some 9, none, .bin .lss .sc (.t 8) (.t 7)⟩]) (.seq (.cond (.t 9) .skip (.exit 0)) (C_route_New_k3 f_key_Good f_key_Cmp f_slices_Clone_Key))) is fr σ K := (rfl)
def C_route_New_k5 (f_key_Good f_key_Cmp f_slices_Clone_Key : FuncId) : LCode := (.block 0 (.loop [true, false, false, false, false, false, true, true, true, false, false, false, false, false, false, false, false, false, false, false, false, false, false, false, false, false, false, false, false, false, false, false, false, false, false, false, false, false] (C_route_New_k4 f_key_Good f_key_Cmp f_slices_Clone_Key)))
theorem u_C_route_New_k5 {C : CallW} {P : Program} {rd : Bool} {is : List Item} {fr : Fr} {σ : St} {K : KC} (f_key_Good f_key_Cmp f_slices_Clone_Key : FuncId) : runC C P rd (C_route_New_k5 f_key_Good f_key_Cmp f_slices_Clone_Key) is fr σ K = runC C P rd (.block 0 (.loop [true, false, false, false, false, false, true, true, true, false, false, false, false, false, false, false, false, false, false, false, false, false, false, false, false, false, false, false, false, false, false, false, false, false, false, false, false, false] (C_route_New_k4 f_key_Good f_key_Cmp f_slices_Clone_Key))) is fr σ K := (rfl)
def C_route_New_k6 (f_key_Good f_key_Cmp f_slices_Clone_Key : FuncId) : LCode := (.cond (.t 33) (.seq (.sq [⟨some 2, none, .mv true (.c .nilP)⟩,
      ⟨some 3, none, .mv true (.c (.int .i64 1))⟩]) .ret) .skip)
theorem u_C_route_New_k6 {C : CallW} {P : Program} {rd : Bool} {is : List Item} {fr : Fr} {σ : St} {K : KC} (f_key_Good f_key_Cmp f_slices_Clone_Key : FuncId) : runC C P rd (C_route_New_k6 f_key_Good f_key_Cmp f_slices_Clone_Key) is fr σ K = runC C P rd (.cond (.t 33) (.seq (.sq [⟨some 2, none, .mv true (.c .nilP)⟩,
      ⟨some 3, none, .mv true (.c (.int .i64 1))⟩]) .ret) .skip) is fr σ K := (rfl)
def C_route_New_k7 (f_key_Good f_key_Cmp f_slices_Clone_Key : FuncId) : LCode := (.seq (.sq [⟨some 34, none, .mv true (.t 0)⟩,
    ⟨some 35, none, .call (.f f_slices_Clone_Key) [(.t 34)]⟩,
    ⟨some 36, none, .build [(.s .nilS)] [(0, 1, (.t 35))]⟩,
    ⟨some 37, none, .box false true (.t 36)⟩,
    ⟨some 2, none, .mv true (.t 37)⟩,
    ⟨some 3, none, .mv true (.c (.int .i64 0))⟩]) .ret)
theorem u_C_route_New_k7 {C : CallW} {P : Program} {rd : Bool} {is : List Item} {fr : Fr} {σ : St} {K : KC} (f_key_Good f_key_Cmp f_slices_Clone_Key : FuncId) : runC C P rd (C_route_New_k7 f_key_Good f_key_Cmp f_slices_Clone_Key) is fr σ K = runC C P rd (.seq (.sq [⟨some 34, none, .mv true (.t 0)⟩,
    ⟨some 35, none, .call (.f f_slices_Clone_Key) [(.t 34)]⟩,
    ⟨some 36, none, .build [(.s .nilS)] [(0, 1, (.t 35))]⟩,
    ⟨some 37, none, .box false true (.t 36)⟩,
    ⟨some 2, none, .mv true (.t 37)⟩,
    ⟨some 3, none, .mv true (.c (.int .i64 0))⟩]) .ret) is fr σ K := (rfl)
def C_route_New_k8 (f_key_Good f_key_Cmp f_slices_Clone_Key : FuncId) : LCode := (.seq (.seq (.sq [⟨some 31, none, .mv false (.t 0)⟩,
    ⟨some 32, none, .len .sl (.t 31)⟩,
    ⟨some 33, none, .bin .geq .sc (.t 32) (.c (.int .i64 8))⟩]) (C_route_New_k6 f_key_Good f_key_Cmp f_slices_Clone_Key)) (C_route_New_k7 f_key_Good f_key_Cmp f_slices_Clone_Key))
theorem u_C_route_New_k8 {C : CallW} {P : Program} {rd : Bool} {is : List Item} {fr : Fr} {σ : St} {K : KC} (f_key_Good f_key_Cmp f_slices_Clone_Key : FuncId) : runC C P rd (C_route_New_k8 f_key_Good f_key_Cmp f_slices_Clone_Key) is fr σ K = runC C P rd (.seq (.seq (.sq [⟨some 31, none, .mv false (.t 0)⟩,
    ⟨some 32, none, .len .sl (.t 31)⟩,
    ⟨some 33, none, .bin .geq .sc (.t 32) (.c (.int .i64 8))⟩]) (C_route_New_k6 f_key_Good f_key_Cmp f_slices_Clone_Key)) (C_route_New_k7 f_key_Good f_key_Cmp f_slices_Clone_Key)) is fr σ K := (rfl)
def C_route_New_k9 (f_key_Good f_key_Cmp f_slices_Clone_Key : FuncId) : LCode := (.seq (.seq (.sq [⟨some 6, none, .mv false (.t 0)⟩,
    ⟨some 7, none, .len .sl (.t 6)⟩,
    ⟨some 8, none, .mv false (.c (.int .i64 0))⟩]) (C_route_New_k5 f_key_Good f_key_Cmp f_slices_Clone_Key)) (C_route_New_k8 f_key_Good f_key_Cmp f_slices_Clone_Key))
theorem u_C_route_New_k9 {C : CallW} {P : Program} {rd : Bool} {is : List Item} {fr : Fr} {σ : St} {K : KC} (f_key_Good f_key_Cmp f_slices_Clone_Key : FuncId) : runC C P rd (C_route_New_k9 f_key_Good f_key_Cmp f_slices_Clone_Key) is fr σ K = runC C P rd (.seq (.seq (.sq [⟨some 6, none, .mv false (.t 0)⟩,
    ⟨some 7, none, .len .sl (.t 6)⟩,
    ⟨some 8, none, .mv false (.c (.int .i64 0))⟩]) (C_route_New_k5 f_key_Good f_key_Cmp f_slices_Clone_Key)) (C_route_New_k8 f_key_Good f_key_Cmp f_slices_Clone_Key)) is fr σ K := (rfl)
def C_route_New (f_key_Good f_key_Cmp f_slices_Clone_Key : FuncId) : LFn :=
  ⟨38, [.t 2, .t 3], (.seq (.sq [⟨some 2, none, .mv true (.c .nilP)⟩,
    ⟨some 3, none, .mv true (.c (.int .i64 0))⟩]) (C_route_New_k9 f_key_Good f_key_Cmp f_slices_Clone_Key))⟩

def C_route_Table_Nodes_k1 : LCode := (.seq (.sq [⟨some 3, none, .mv false (.t 0)⟩,
    ⟨some 4, none, .nilc (.t 3)⟩,
    ⟨some 5, none, .shift 0 (.t 4)⟩,
    ⟨some 6, none, .load1 false (.t 5)⟩,
    ⟨some 7, none, .len .sl (.t 6)⟩,
    ⟨some 8, none, .bin .add .sc (.t 7) (.c (.int .i64 1))⟩,
    ⟨some 2, none, .mv true (.t 8)⟩]) .ret)
theorem u_C_route_Table_Nodes_k1 {C : CallW} {P : Program} {rd : Bool} {is : List Item} {fr : Fr} {σ : St} {K : KC} : runC C P rd C_route_Table_Nodes_k1 is fr σ K = runC C P rd (.seq (.sq [⟨some 3, none, .mv false (.t 0)⟩,
    ⟨some 4, none, .nilc (.t 3)⟩,
    ⟨some 5, none, .shift 0 (.t 4)⟩,
    ⟨some 6, none, .load1 false (.t 5)⟩,
    ⟨some 7, none, .len .sl (.t 6)⟩,
    ⟨some 8, none, .bin .add .sc (.t 7) (.c (.int .i64 1))⟩,
    ⟨some 2, none, .mv true (.t 8)⟩]) .ret) is fr σ K := (rfl)
def C_route_Table_Nodes : LFn :=
  ⟨9, [.t 2], (.seq (.sq [⟨some 2, none, .mv true (.c (.int .i64 0))⟩]) C_route_Table_Nodes_k1)⟩

def C_route_Table_Of_k1 (f_key_Good f_key_Cmp : FuncId) : LCode := (.sq [⟨some 24, none, .mv false (.t 5)⟩,
            ⟨some 25, none, .bin .add .sc (.t 24) (.c (.int .i64 1))⟩,
            ⟨some 5, none, .mv true (.t 25)⟩])
theorem u_C_route_Table_Of_k1 {C : CallW} {P : Program} {rd : Bool} {is : List Item} {fr : Fr} {σ : St} {K : KC} (f_key_Good f_key_Cmp : FuncId) : runC C P rd (C_route_Table_Of_k1 f_key_Good f_key_Cmp) is fr σ K = runC C P rd (.sq [⟨some 24, none, .mv false (.t 5)⟩,
            ⟨some 25, none, .bin .add .sc (.t 24) (.c (.int .i64 1))⟩,
            ⟨some 5, none, .mv true (.t 25)⟩]) is fr σ K := (rfl)
def C_route_Table_Of_k2 (f_key_Good f_key_Cmp : FuncId) : LCode := (.seq (.sq [⟨some 20, none, .loadA 16 (.t 7)⟩,
          ⟨some 21, none, .loadA 16 (.t 3)⟩,
          ⟨some 22, none, .call (.f f_key_Cmp) [(.t 20), (.t 21)]⟩,
          ⟨some 23, none, .bin .leq .sc (.t 22) (.c (.int .i64 0))⟩]) (.cond (.t 23) (C_route_Table_Of_k1 f_key_Good f_key_Cmp) .skip))
theorem u_C_route_Table_Of_k2 {C : CallW} {P : Program} {rd : Bool} {is : List Item} {fr : Fr} {σ : St} {K : KC} (f_key_Good f_key_Cmp : FuncId) : runC C P rd (C_route_Table_Of_k2 f_key_Good f_key_Cmp) is fr σ K = runC C P rd (.seq (.sq [⟨some 20, none, .loadA 16 (.t 7)⟩,
          ⟨some 21, none, .loadA 16 (.t 3)⟩,
          ⟨some 22, none, .call (.f f_key_Cmp) [(.t 20), (.t 21)]⟩,
          ⟨some 23, none, .bin .leq .sc (.t 22) (.c (.int .i64 0))⟩]) (.cond (.t 23) (C_route_Table_Of_k1 f_key_Good f_key_Cmp) .skip)) is fr σ K := (rfl)
def C_route_Table_Of_k3 (f_key_Good f_key_Cmp : FuncId) : LCode := (.seq (.block 1 (.seq (.sq [⟨some 18, none, .ixa (.sl 16) (.t 14) (.t 16)⟩,
          ⟨some 19, none, .loadA 16 (.t 18)⟩,
          ⟨some 7, none, .alloc false zk⟩,
          ⟨none, none, .store 16 (.t 7) (.t 19)⟩]) (C_route_Table_Of_k2 f_key_Good f_key_Cmp))) (.sq [⟨some 26, none, .bin .add .sc (.t 16) (.c (.int .i64 1))⟩,
        ⟨some 16, none, .mv false (.t 26)⟩]))
theorem u_C_route_Table_Of_k3 {C : CallW} {P : Program} {rd : Bool} {is : List Item} {fr : Fr} {σ : St} {K : KC} (f_key_Good f_key_Cmp : FuncId) : runC C P rd (C_route_Table_Of_k3 f_key_Good f_key_Cmp) is fr σ K = runC C P rd (.seq (.block 1 (.seq (.sq [⟨some 18, none, .ixa (.sl 16) (.t 14) (.t 16)⟩,
          ⟨some 19, none, .loadA 16 (.t 18)⟩,
          ⟨some 7, none, .alloc false zk⟩,
          ⟨none, none, .store 16 (.t 7) (.t 19)⟩]) (C_route_Table_Of_k2 f_key_Good f_key_Cmp))) (.sq [⟨some 26, none, .bin .add .sc (.t 16) (.c (.int .i64 1))⟩,
        ⟨some 16, none, .mv false (.t 26)⟩])) is fr σ K := (rfl)
def C_route_Table_Of_k4 (f_key_Good f_key_Cmp : FuncId) : LCode := (.seq (.sq [⟨some 17, none, .bin .lss .sc (.t 16) (.t 15)⟩]) (.seq (.cond (.t 17) .skip (.exit 0)) (C_route_Table_Of_k3 f_key_Good f_key_Cmp)))
theorem u_C_route_Table_Of_k4 {C : CallW} {P : Program} {rd : Bool} {is : List Item} {fr : Fr} {σ : St} {K : KC} (f_key_Good f_key_Cmp : FuncId) : runC C P rd (C_route_Table_Of_k4 f_key_Good f_key_Cmp) is fr σ K = runC C P rd (.seq (.sq [⟨some 17, none, .bin .lss .sc (.t 16) (.t 15)⟩]) (.seq (.cond (.t 17) .skip (.exit 0)) (C_route_Table_Of_k3 f_key_Good f_key_Cmp))) is fr σ K := (rfl)
def C_route_Table_Of_k5 (f_key_Good f_key_Cmp : FuncId) : LCode := (.block 0 (.loop [false, false, false, true, false, true, false, false, false, false, false, false, false, false, true, true, true, false, false, false, false, false, false, false, false, false, false, false] (C_route_Table_Of_k4 f_key_Good f_key_Cmp)))
theorem u_C_route_Table_Of_k5 {C : CallW} {P : Program} {rd : Bool} {is : List Item} {fr : Fr} {σ : St} {K : KC} (f_key_Good f_key_Cmp : FuncId) : runC C P rd (C_route_Table_Of_k5 f_key_Good f_key_Cmp) is fr σ K = runC C P rd (.block 0 (.loop [false, false, false, true, false, true, false, false, false, false, false, false, false, false, true, true, true, false, false, false, false, false, false, false, false, false, false, false] (C_route_Table_Of_k4 f_key_Good f_key_Cmp))) is fr σ K := (rfl)
def C_route_Table_Of_k6 (f_key_Good f_key_Cmp : FuncId) : LCode := (.seq (.seq (.sq [⟨some 11, none, .mv false (.t 0)⟩,
    ⟨some 12, none, .nilc (.t 11)⟩,
    ⟨some 13, none, .shift 0 (.t 12)⟩,
    ⟨some 14, none, .load1 false (.t 13)⟩,
    ⟨some 15, none, .len .sl (.t 14)⟩,
    ⟨some 16, none, .mv false (.c (.int .i64 0))⟩]) (C_route_Table_Of_k5 f_key_Good f_key_Cmp)) (.seq (.sq [⟨some 27, none, .mv false (.t 5)⟩,
    ⟨some 4, none, .mv true (.t 27)⟩]) .ret))
theorem u_C_route_Table_Of_k6 {C : CallW} {P : Program} {rd : Bool} {is : List Item} {fr : Fr} {σ : St} {K : KC} (f_key_Good f_key_Cmp : FuncId) : runC C P rd (C_route_Table_Of_k6 f_key_Good f_key_Cmp) is fr σ K = runC C P rd (.seq (.seq (.sq [⟨some 11, none, .mv false (.t 0)⟩,
    ⟨some 12, none, .nilc (.t 11)⟩,
    ⟨some 13, none, .shift 0 (.t 12)⟩,
    ⟨some 14, none, .load1 false (.t 13)⟩,
    ⟨some 15, none, .len .sl (.t 14)⟩,
    ⟨some 16, none, .mv false (.c (.int .i64 0))⟩]) (C_route_Table_Of_k5 f_key_Good f_key_Cmp)) (.seq (.sq [⟨some 27, none, .mv false (.t 5)⟩,
    ⟨some 4, none, .mv true (.t 27)⟩]) .ret)) is fr σ K := (rfl)
def C_route_Table_Of_k7 (f_key_Good f_key_Cmp : FuncId) : LCode := (.seq (.seq (.sq [⟨some 8, none, .loadA 16 (.t 3)⟩,
    ⟨some 9, none, .call (.f f_key_Good) [(.t 8)]⟩,
    ⟨some 10, none, .un .not (.t 9)⟩]) (.cond (.t 10) (.seq (.sq [⟨some 4, none, .mv true (.c (.int .i64 (-1)))⟩]) .ret) .skip)) (.seq (.sq [⟨some 5, none, .mv true (.c (.int .i64 0))⟩]) (C_route_Table_Of_k6 f_key_Good f_key_Cmp)))
theorem u_C_route_Table_Of_k7 {C : CallW} {P : Program} {rd : Bool} {is : List Item} {fr : Fr} {σ : St} {K : KC} (f_key_Good f_key_Cmp : FuncId) : runC C P rd (C_route_Table_Of_k7 f_key_Good f_key_Cmp) is fr σ K = runC C P rd (.seq (.seq (.sq [⟨some 8, none, .loadA 16 (.t 3)⟩,
    ⟨some 9, none, .call (.f f_key_Good) [(.t 8)]⟩,
    ⟨some 10, none, .un .not (.t 9)⟩]) (.cond (.t 10) (.seq (.sq [⟨some 4, none, .mv true (.c (.int .i64 (-1)))⟩]) .ret) .skip)) (.seq (.sq [⟨some 5, none, .mv true (.c (.int .i64 0))⟩]) (C_route_Table_Of_k6 f_key_Good f_key_Cmp))) is fr σ K := (rfl)
def C_route_Table_Of (f_key_Good f_key_Cmp : FuncId) : LFn :=
  ⟨28, [.t 4], (.seq (.sq [⟨some 3, none, .box false false (.t 1)⟩,
    ⟨some 4, none, .mv true (.c (.int .i64 0))⟩]) (C_route_Table_Of_k7 f_key_Good f_key_Cmp))⟩

def C_route_Table_Cover_k1 (f_key_Cmp f_route_Table_Nodes : FuncId) : LCode := (.sq [⟨some 69, none, .mv true (.t 8)⟩,
            ⟨some 70, none, .mv false (.t 9)⟩,
            ⟨some 71, none, .bsl ⟨1, false, 8, (.s (.int .i64 0))⟩ 1 [(0, (.t 70))]⟩,
            ⟨some 72, none, .app ⟨1, false, 8, (.s (.int .i64 0))⟩ false (.t 69) (.t 71)⟩,
            ⟨some 8, none, .mv true (.t 72)⟩])
theorem u_C_route_Table_Cover_k1 {C : CallW} {P : Program} {rd : Bool} {is : List Item} {fr : Fr} {σ : St} {K : KC} (f_key_Cmp f_route_Table_Nodes : FuncId) : runC C P rd (C_route_Table_Cover_k1 f_key_Cmp f_route_Table_Nodes) is fr σ K = runC C P rd (.sq [⟨some 69, none, .mv true (.t 8)⟩,
            ⟨some 70, none, .mv false (.t 9)⟩,
            ⟨some 71, none, .bsl ⟨1, false, 8, (.s (.int .i64 0))⟩ 1 [(0, (.t 70))]⟩,
            ⟨some 72, none, .app ⟨1, false, 8, (.s (.int .i64 0))⟩ false (.t 69) (.t 71)⟩,
            ⟨some 8, none, .mv true (.t 72)⟩]) is fr σ K := (rfl)
def C_route_Table_Cover_k2 (f_key_Cmp f_route_Table_Nodes : FuncId) : LCode := (.seq (.sq [⟨some 65, none, .mv false (.t 10)⟩,
          ⟨some 66, none, .mv false (.t 65)⟩,
          ⟨some 67, some (66, true), .mv false (.t 11)⟩,
          ⟨some 68, none, .pick (.t 66) (.t 67) (.c (.bool false))⟩]) (.cond (.t 68) (C_route_Table_Cover_k1 f_key_Cmp f_route_Table_Nodes) .skip))
theorem u_C_route_Table_Cover_k2 {C : CallW} {P : Program} {rd : Bool} {is : List Item} {fr : Fr} {σ : St} {K : KC} (f_key_Cmp f_route_Table_Nodes : FuncId) : runC C P rd (C_route_Table_Cover_k2 f_key_Cmp f_route_Table_Nodes) is fr σ K = runC C P rd (.seq (.sq [⟨some 65, none, .mv false (.t 10)⟩,
          ⟨some 66, none, .mv false (.t 65)⟩,
          ⟨some 67, some (66, true), .mv false (.t 11)⟩,
          ⟨some 68, none, .pick (.t 66) (.t 67) (.c (.bool false))⟩]) (.cond (.t 68) (C_route_Table_Cover_k1 f_key_Cmp f_route_Table_Nodes) .skip)) is fr σ K := (rfl)
def C_route_Table_Cover_k3 (f_key_Cmp f_route_Table_Nodes : FuncId) : LCode := (.seq (.tree (.rd ⟨some 47, none, .mv false (.t 9)⟩ 0 false (.rd ⟨some 48, none, .bin .eql .sc (.t 47) (.c (.int .i64 0))⟩ 1 false (.rd ⟨some 49, none, .mv false (.t 48)⟩ 2 false (.rd ⟨some 50, some (49, false), .mv false (.t 7)⟩ 3 false (.rd ⟨some 51, none, .pick (.t 49) (.c (.bool true)) (.t 50)⟩ 4 false (.rd ⟨some 52, none, .mv false (.t 51)⟩ 5 false (.rd ⟨some 53, some (52, false), .mv false (.t 0)⟩ 6 false (.rd ⟨some 54, some (52, false), .nilc (.t 53)⟩ 7 false (.rd ⟨some 55, some (52, false), .shift 0 (.t 54)⟩ 8 false (.rd ⟨some 56, some (52, false), .load1 false (.t 55)⟩ 9 false (.rd ⟨some 57, some (52, false), .mv false (.t 9)⟩ 10 false (.rd ⟨some 58, some (52, false), .bin .sub .sc (.t 57) (.c (.int .i64 1))⟩ 11 false (.rd ⟨some 59, some (52, false), .ixa (.sl 16) (.t 56) (.t 58)⟩ 12 false (.rd ⟨some 60, some (52, false), .loadA 16 (.t 59)⟩ 13 false (.rd ⟨some 61, some (52, false), .loadA 16 (.t 5)⟩ 14 false (.mv ⟨some 62, some (52, false), .call (.f f_key_Cmp) [(.t 60), (.t 61)]⟩ [0, 1, 2, 3, 4, 5, 6, 7, 8, 9, 10, 11, 12, 13, 14] (.rd ⟨some 63, some (52, false), .bin .lss .sc (.t 62) (.c (.int .i64 0))⟩ 16 false (.rd ⟨some 64, none, .pick (.t 52) (.c (.bool true)) (.t 63)⟩ 17 false (.mv ⟨some 11, none, .mv true (.t 64)⟩ [0, 1, 2, 3, 4, 5, 6, 7, 8, 9, 10, 11, 12, 13, 14, 15, 16, 17] .done .stop))) .stop))))))))))))))))) (C_route_Table_Cover_k2 f_key_Cmp f_route_Table_Nodes))
theorem u_C_route_Table_Cover_k3 {C : CallW} {P : Program} {rd : Bool} {is : List Item} {fr : Fr} {σ : St} {K : KC} (f_key_Cmp f_route_Table_Nodes : FuncId) : runC C P rd (C_route_Table_Cover_k3 f_key_Cmp f_route_Table_Nodes) is fr σ K = runC C P rd (.seq (.tree (.rd ⟨some 47, none, .mv false (.t 9)⟩ 0 false (.rd ⟨some 48, none, .bin .eql .sc (.t 47) (.c (.int .i64 0))⟩ 1 false (.rd ⟨some 49, none, .mv false (.t 48)⟩ 2 false (.rd ⟨some 50, some (49, false), .mv false (.t 7)⟩ 3 false (.rd ⟨some 51, none, .pick (.t 49) (.c (.bool true)) (.t 50)⟩ 4 false (.rd ⟨some 52, none, .mv false (.t 51)⟩ 5 false (.rd ⟨some 53, some (52, false), .mv false (.t 0)⟩ 6 false (.rd ⟨some 54, some (52, false), .nilc (.t 53)⟩ 7 false (.rd ⟨some 55, some (52, false), .shift 0 (.t 54)⟩ 8 false (.rd ⟨some 56, some (52, false), .load1 false (.t 55)⟩ 9 false (.rd ⟨some 57, some (52, false), .mv false (.t 9)⟩ 10 false (.rd ⟨some 58, some (52, false), .bin .sub .sc (.t 57) (.c (.int .i64 1))⟩ 11 false (.rd ⟨some 59, some (52, false), .ixa (.sl 16) (.t 56) (.t 58)⟩ 12 false (.rd ⟨some 60, some (52, false), .loadA 16 (.t 59)⟩ 13 false (.rd ⟨some 61, some (52, false), .loadA 16 (.t 5)⟩ 14 false (.mv ⟨some 62, some (52, false), .call (.f f_key_Cmp) [(.t 60), (.t 61)]⟩ [0, 1, 2, 3, 4, 5, 6, 7, 8, 9, 10, 11, 12, 13, 14] (.rd ⟨some 63, some (52, false), .bin .lss .sc (.t 62) (.c (.int .i64 0))⟩ 16 false (.rd ⟨some 64, none, .pick (.t 52) (.c (.bool true)) (.t 63)⟩ 17 false (.mv ⟨some 11, none, .mv true (.t 64)⟩ [0, 1, 2, 3, 4, 5, 6, 7, 8, 9, 10, 11, 12, 13, 14, 15, 16, 17] .done .stop))) .stop))))))))))))))))) (C_route_Table_Cover_k2 f_key_Cmp f_route_Table_Nodes)) is fr σ K := (rfl)
def C_route_Table_Cover_k4 (f_key_Cmp f_route_Table_Nodes : FuncId) : LCode := (.seq (.tree (.rd ⟨some 28, none, .mv false (.t 9)⟩ 0 false (.rd ⟨some 29, none, .mv false (.t 0)⟩ 1 false (.rd ⟨some 30, none, .nilc (.t 29)⟩ 2 false (.rd ⟨some 31, none, .shift 0 (.t 30)⟩ 3 false (.rd ⟨some 32, none, .load1 false (.t 31)⟩ 4 false (.rd ⟨some 33, none, .len .sl (.t 32)⟩ 5 false (.rd ⟨some 34, none, .bin .eql .sc (.t 28) (.t 33)⟩ 6 false (.rd ⟨some 35, none, .mv false (.t 34)⟩ 7 false (.rd ⟨some 36, some (35, false), .mv false (.t 0)⟩ 8 false (.rd ⟨some 37, some (35, false), .nilc (.t 36)⟩ 9 false (.rd ⟨some 38, some (35, false), .shift 0 (.t 37)⟩ 10 false (.rd ⟨some 39, some (35, false), .load1 false (.t 38)⟩ 11 false (.rd ⟨some 40, some (35, false), .mv false (.t 9)⟩ 12 false (.rd ⟨some 41, some (35, false), .ixa (.sl 16) (.t 39) (.t 40)⟩ 13 false (.rd ⟨some 42, some (35, false), .loadA 16 (.t 41)⟩ 14 false (.rd ⟨some 43, some (35, false), .loadA 16 (.t 4)⟩ 15 false (.mv ⟨some 44, some (35, false), .call (.f f_key_Cmp) [(.t 42), (.t 43)]⟩ [0, 1, 2, 3, 4, 5, 6, 7, 8, 9, 10, 11, 12, 13, 14, 15] (.rd ⟨some 45, some (35, false), .bin .gtr .sc (.t 44) (.c (.int .i64 0))⟩ 17 false (.rd ⟨some 46, none, .pick (.t 35) (.c (.bool true)) (.t 45)⟩ 18 false (.mv ⟨some 10, none, .mv true (.t 46)⟩ [0, 1, 2, 3, 4, 5, 6, 7, 8, 9, 10, 11, 12, 13, 14, 15, 16, 17, 18] .done .stop))) .stop)))))))))))))))))) (C_route_Table_Cover_k3 f_key_Cmp f_route_Table_Nodes))
theorem u_C_route_Table_Cover_k4 {C : CallW} {P : Program} {rd : Bool} {is : List Item} {fr : Fr} {σ : St} {K : KC} (f_key_Cmp f_route_Table_Nodes : FuncId) : runC C P rd (C_route_Table_Cover_k4 f_key_Cmp f_route_Table_Nodes) is fr σ K = runC C P rd (.seq (.tree (.rd ⟨some 28, none, .mv false (.t 9)⟩ 0 false (.rd ⟨some 29, none, .mv false (.t 0)⟩ 1 false (.rd ⟨some 30, none, .nilc (.t 29)⟩ 2 false (.rd ⟨some 31, none, .shift 0 (.t 30)⟩ 3 false (.rd ⟨some 32, none, .load1 false (.t 31)⟩ 4 false (.rd ⟨some 33, none, .len .sl (.t 32)⟩ 5 false (.rd ⟨some 34, none, .bin .eql .sc (.t 28) (.t 33)⟩ 6 false (.rd ⟨some 35, none, .mv false (.t 34)⟩ 7 false (.rd ⟨some 36, some (35, false), .mv false (.t 0)⟩ 8 false (.rd ⟨some 37, some (35, false), .nilc (.t 36)⟩ 9 false (.rd ⟨some 38, some (35, false), .shift 0 (.t 37)⟩ 10 false (.rd ⟨some 39, some (35, false), .load1 false (.t 38)⟩ 11 false (.rd ⟨some 40, some (35, false), .mv false (.t 9)⟩ 12 false (.rd ⟨some 41, some (35, false), .ixa (.sl 16) (.t 39) (.t 40)⟩ 13 false (.rd ⟨some 42, some (35, false), .loadA 16 (.t 41)⟩ 14 false (.rd ⟨some 43, some (35, false), .loadA 16 (.t 4)⟩ 15 false (.mv ⟨some 44, some (35, false), .call (.f f_key_Cmp) [(.t 42), (.t 43)]⟩ [0, 1, 2, 3, 4, 5, 6, 7, 8, 9, 10, 11, 12, 13, 14, 15] (.rd ⟨some 45, some (35, false), .bin .gtr .sc (.t 44) (.c (.int .i64 0))⟩ 17 false (.rd ⟨some 46, none, .pick (.t 35) (.c (.bool true)) (.t 45)⟩ 18 false (.mv ⟨some 10, none, .mv true (.t 46)⟩ [0, 1, 2, 3, 4, 5, 6, 7, 8, 9, 10, 11, 12, 13, 14, 15, 16, 17, 18] .done .stop))) .stop)))))))))))))))))) (C_route_Table_Cover_k3 f_key_Cmp f_route_Table_Nodes)) is fr σ K := (rfl)
def C_route_Table_Cover_k5 (f_key_Cmp f_route_Table_Nodes : FuncId) : LCode := (.seq (.block 1 (.seq (.sq [⟨some 27, none, .mv false (.t 25)⟩,
          ⟨some 9, none, .mv true (.t 27)⟩]) (C_route_Table_Cover_k4 f_key_Cmp f_route_Table_Nodes))) (.sq [⟨some 73, none, .bin .add .sc (.t 25) (.c (.int .i64 1))⟩,
        ⟨some 25, none, .mv false (.t 73)⟩]))
theorem u_C_route_Table_Cover_k5 {C : CallW} {P : Program} {rd : Bool} {is : List Item} {fr : Fr} {σ : St} {K : KC} (f_key_Cmp f_route_Table_Nodes : FuncId) : runC C P rd (C_route_Table_Cover_k5 f_key_Cmp f_route_Table_Nodes) is fr σ K = runC C P rd (.seq (.block 1 (.seq (.sq [⟨some 27, none, .mv false (.t 25)⟩,
          ⟨some 9, none, .mv true (.t 27)⟩]) (C_route_Table_Cover_k4 f_key_Cmp f_route_Table_Nodes))) (.sq [⟨some 73, none, .bin .add .sc (.t 25) (.c (.int .i64 1))⟩,
        ⟨some 25, none, .mv false (.t 73)⟩])) is fr σ K := (rfl)
def C_route_Table_Cover_k6 (f_key_Cmp f_route_Table_Nodes : FuncId) : LCode := (.seq (.sq [⟨some 26, none, .bin .lss .sc (.t 25) (.t 24)⟩]) (.seq (.cond (.t 26) .skip (.exit 0)) (C_route_Table_Cover_k5 f_key_Cmp f_route_Table_Nodes)))
theorem u_C_route_Table_Cover_k6 {C : CallW} {P : Program} {rd : Bool} {is : List Item} {fr : Fr} {σ : St} {K : KC} (f_key_Cmp f_route_Table_Nodes : FuncId) : runC C P rd (C_route_Table_Cover_k6 f_key_Cmp f_route_Table_Nodes) is fr σ K = runC C P rd (.seq (.sq [⟨some 26, none, .bin .lss .sc (.t 25) (.t 24)⟩]) (.seq (.cond (.t 26) .skip (.exit 0)) (C_route_Table_Cover_k5 f_key_Cmp f_route_Table_Nodes))) is fr σ K := (rfl)
def C_route_Table_Cover_k7 (f_key_Cmp f_route_Table_Nodes : FuncId) : LCode := (.block 0 (.loop [true, false, false, false, true, true, false, true, true, false, false, false, false, false, false, false, false, false, false, false, false, false, false, false, true, true, false, false, false, false, false, false, false, false, false, false, false, false, false, false, false, false, false, false, false, false, false, false, false, false, false, false, false, false, false, false, false, false, false, false, false, false, false, false, false, false, false, false, false, false, false, false, false, false, false] (C_route_Table_Cover_k6 f_key_Cmp f_route_Table_Nodes)))
theorem u_C_route_Table_Cover_k7 {C : CallW} {P : Program} {rd : Bool} {is : List Item} {fr : Fr} {σ : St} {K : KC} (f_key_Cmp f_route_Table_Nodes : FuncId) : runC C P rd (C_route_Table_Cover_k7 f_key_Cmp f_route_Table_Nodes) is fr σ K = runC C P rd (.block 0 (.loop [true, false, false, false, true, true, false, true, true, false, false, false, false, false, false, false, false, false, false, false, false, false, false, false, true, true, false, false, false, false, false, false, false, false, false, false, false, false, false, false, false, false, false, false, false, false, false, false, false, false, false, false, false, false, false, false, false, false, false, false, false, false, false, false, false, false, false, false, false, false, false, false, false, false, false] (C_route_Table_Cover_k6 f_key_Cmp f_route_Table_Nodes))) is fr σ K := (rfl)
def C_route_Table_Cover_k8 (f_key_Cmp f_route_Table_Nodes : FuncId) : LCode := (.seq (.seq (.sq [⟨some 23, none, .mv false (.t 0)⟩,
    ⟨some 24, none, .call (.f f_route_Table_Nodes) [(.t 23)]⟩,
    ⟨some 25, none, .mv false (.c (.int .i64 0))⟩]) (C_route_Table_Cover_k7 f_key_Cmp f_route_Table_Nodes)) (.seq (.sq [⟨some 74, none, .mv true (.t 8)⟩,
    ⟨some 6, none, .mv true (.t 74)⟩]) .ret))
theorem u_C_route_Table_Cover_k8 {C : CallW} {P : Program} {rd : Bool} {is : List Item} {fr : Fr} {σ : St} {K : KC} (f_key_Cmp f_route_Table_Nodes : FuncId) : runC C P rd (C_route_Table_Cover_k8 f_key_Cmp f_route_Table_Nodes) is fr σ K = runC C P rd (.seq (.seq (.sq [⟨some 23, none, .mv false (.t 0)⟩,
    ⟨some 24, none, .call (.f f_route_Table_Nodes) [(.t 23)]⟩,
    ⟨some 25, none, .mv false (.c (.int .i64 0))⟩]) (C_route_Table_Cover_k7 f_key_Cmp f_route_Table_Nodes)) (.seq (.sq [⟨some 74, none, .mv true (.t 8)⟩,
    ⟨some 6, none, .mv true (.t 74)⟩]) .ret)) is fr σ K := (rfl)
def C_route_Table_Cover_k9 (f_key_Cmp f_route_Table_Nodes : FuncId) : LCode := (.seq (.seq (.sq [⟨some 15, none, .mv false (.t 7)⟩,
    ⟨some 16, none, .un .not (.t 15)⟩,
    ⟨some 17, none, .mv false (.t 16)⟩,
    ⟨some 18, some (17, true), .loadA 16 (.t 5)⟩,
    ⟨some 19, some (17, true), .loadA 16 (.t 4)⟩,
    ⟨some 20, some (17, true), .call (.f f_key_Cmp) [(.t 18), (.t 19)]⟩,
    ⟨some 21, some (17, true), .bin .leq .sc (.t 20) (.c (.int .i64 0))⟩,
    ⟨some 22, none, .pick (.t 17) (.t 21) (.c (.bool false))⟩]) (.cond (.t 22) (.seq (.sq [⟨some 6, none, .mv true (.c .nilS)⟩]) .ret) .skip)) (.seq (.sq [⟨some 8, none, .mv true (.c .nilS)⟩]) (C_route_Table_Cover_k8 f_key_Cmp f_route_Table_Nodes)))
theorem u_C_route_Table_Cover_k9 {C : CallW} {P : Program} {rd : Bool} {is : List Item} {fr : Fr} {σ : St} {K : KC} (f_key_Cmp f_route_Table_Nodes : FuncId) : runC C P rd (C_route_Table_Cover_k9 f_key_Cmp f_route_Table_Nodes) is fr σ K = runC C P rd (.seq (.seq (.sq [⟨some 15, none, .mv false (.t 7)⟩,
    ⟨some 16, none, .un .not (.t 15)⟩,
    ⟨some 17, none, .mv false (.t 16)⟩,
    ⟨some 18, some (17, true), .loadA 16 (.t 5)⟩,
    ⟨some 19, some (17, true), .loadA 16 (.t 4)⟩,
    ⟨some 20, some (17, true), .call (.f f_key_Cmp) [(.t 18), (.t 19)]⟩,
    ⟨some 21, some (17, true), .bin .leq .sc (.t 20) (.c (.int .i64 0))⟩,
    ⟨some 22, none, .pick (.t 17) (.t 21) (.c (.bool false))⟩]) (.cond (.t 22) (.seq (.sq [⟨some 6, none, .mv true (.c .nilS)⟩]) .ret) .skip)) (.seq (.sq [⟨some 8, none, .mv true (.c .nilS)⟩]) (C_route_Table_Cover_k8 f_key_Cmp f_route_Table_Nodes))) is fr σ K := (rfl)
def C_route_Table_Cover_k10 (f_key_Cmp f_route_Table_Nodes : FuncId) : LCode := (.seq (.sq [⟨some 12, none, .loadA 16 (.t 5)⟩,
    ⟨some 13, none, .build zk []⟩,
    ⟨some 14, none, .bin .eql (.leaf lk) (.t 12) (.t 13)⟩,
    ⟨some 7, none, .mv true (.t 14)⟩]) (C_route_Table_Cover_k9 f_key_Cmp f_route_Table_Nodes))
theorem u_C_route_Table_Cover_k10 {C : CallW} {P : Program} {rd : Bool} {is : List Item} {fr : Fr} {σ : St} {K : KC} (f_key_Cmp f_route_Table_Nodes : FuncId) : runC C P rd (C_route_Table_Cover_k10 f_key_Cmp f_route_Table_Nodes) is fr σ K = runC C P rd (.seq (.sq [⟨some 12, none, .loadA 16 (.t 5)⟩,
    ⟨some 13, none, .build zk []⟩,
    ⟨some 14, none, .bin .eql (.leaf lk) (.t 12) (.t 13)⟩,
    ⟨some 7, none, .mv true (.t 14)⟩]) (C_route_Table_Cover_k9 f_key_Cmp f_route_Table_Nodes)) is fr σ K := (rfl)
def C_route_Table_Cover (f_key_Cmp f_route_Table_Nodes : FuncId) : LFn :=
  ⟨75, [.t 6], (.seq (.sq [⟨some 4, none, .box false false (.t 1)⟩,
    ⟨some 5, none, .box false false (.t 2)⟩,
    ⟨some 6, none, .mv true (.c .nilS)⟩]) (C_route_Table_Cover_k10 f_key_Cmp f_route_Table_Nodes))⟩

def C_hourglasslaw17_k_k1 (f_hourglassref10_Of : FuncId) : LCode := (.seq (.sq [⟨some 6, none, .mv false (.t 0)⟩,
    ⟨some 7, none, .call (.f f_hourglassref10_Of) [(.t 6)]⟩,
    ⟨some 5, none, .mv false (.t 7)⟩,
    ⟨some 8, none, .ext (.t 5) 0⟩,
    ⟨some 9, none, .ext (.t 5) 1⟩,
    ⟨some 3, none, .alloc false zk⟩,
    ⟨none, none, .store 16 (.t 3) (.t 8)⟩,
    ⟨some 4, none, .mv true (.t 9)⟩]) (.seq (.sq [⟨some 10, none, .loadA 16 (.t 3)⟩,
    ⟨none, none, .store 16 (.t 2) (.t 10)⟩]) .ret))
theorem u_C_hourglasslaw17_k_k1 {C : CallW} {P : Program} {rd : Bool} {is : List Item} {fr : Fr} {σ : St} {K : KC} (f_hourglassref10_Of : FuncId) : runC C P rd (C_hourglasslaw17_k_k1 f_hourglassref10_Of) is fr σ K = runC C P rd (.seq (.sq [⟨some 6, none, .mv false (.t 0)⟩,
    ⟨some 7, none, .call (.f f_hourglassref10_Of) [(.t 6)]⟩,
    ⟨some 5, none, .mv false (.t 7)⟩,
    ⟨some 8, none, .ext (.t 5) 0⟩,
    ⟨some 9, none, .ext (.t 5) 1⟩,
    ⟨some 3, none, .alloc false zk⟩,
    ⟨none, none, .store 16 (.t 3) (.t 8)⟩,
    ⟨some 4, none, .mv true (.t 9)⟩]) (.seq (.sq [⟨some 10, none, .loadA 16 (.t 3)⟩,
    ⟨none, none, .store 16 (.t 2) (.t 10)⟩]) .ret)) is fr σ K := (rfl)
def C_hourglasslaw17_k (f_hourglassref10_Of : FuncId) : LFn :=
  ⟨11, [.many 2 16], (.seq (.sq [⟨some 2, none, .alloc false zk⟩]) (C_hourglasslaw17_k_k1 f_hourglassref10_Of))⟩

def C_hourglasslaw17_awake_k1 (f_hourglasslaw17_k f_route_New f_route_Table_Of f_route_Table_Nodes : FuncId) : LCode := (.seq (.sq [⟨some 9, none, .mv false (.t 2)⟩,
    ⟨some 10, none, .bin .eql .sc (.t 9) (.c (.int .i64 0))⟩,
    ⟨some 11, none, .mv false (.t 10)⟩,
    ⟨some 12, some (11, true), .mv false (.t 1)⟩,
    ⟨some 13, some (11, true), .bin .neq (.ref 0) (.t 12) (.c .nilP)⟩,
    ⟨some 14, none, .pick (.t 11) (.t 13) (.c (.bool false))⟩,
    ⟨some 15, none, .mv false (.t 14)⟩,
    ⟨some 16, some (15, true), .mv false (.t 1)⟩,
    ⟨some 17, some (15, true), .call (.f f_hourglasslaw17_k) [(.c (.str [97]))]⟩,
    ⟨some 18, some (15, true), .call (.f f_route_Table_Of) [(.t 16), (.t 17)]⟩,
    ⟨some 19, some (15, true), .bin .eql .sc (.t 18) (.c (.int .i64 0))⟩,
    ⟨some 20, none, .pick (.t 15) (.t 19) (.c (.bool false))⟩,
    ⟨some 21, none, .mv false (.t 20)⟩,
    ⟨some 22, some (21, true), .mv false (.t 1)⟩,
    ⟨some 23, some (21, true), .call (.f f_hourglasslaw17_k) [(.c (.str [109]))]⟩,
    ⟨some 24, some (21, true), .call (.f f_route_Table_Of) [(.t 22), (.t 23)]⟩,
    ⟨some 25, some (21, true), .bin .eql .sc (.t 24) (.c (.int .i64 1))⟩,
    ⟨some 26, none, .pick (.t 21) (.t 25) (.c (.bool false))⟩,
    ⟨some 27, none, .mv false (.t 26)⟩,
    ⟨some 28, some (27, true), .mv false (.t 1)⟩,
    ⟨some 29, some (27, true), .call (.f f_route_Table_Nodes) [(.t 28)]⟩,
    ⟨some 30, some (27, true), .bin .eql .sc (.t 29) (.c (.int .i64 2))⟩,
    ⟨some 31, none, .pick (.t 27) (.t 30) (.c (.bool false))⟩,
    ⟨some 0, none, .mv true (.t 31)⟩]) .ret)
theorem u_C_hourglasslaw17_awake_k1 {C : CallW} {P : Program} {rd : Bool} {is : List Item} {fr : Fr} {σ : St} {K : KC} (f_hourglasslaw17_k f_route_New f_route_Table_Of f_route_Table_Nodes : FuncId) : runC C P rd (C_hourglasslaw17_awake_k1 f_hourglasslaw17_k f_route_New f_route_Table_Of f_route_Table_Nodes) is fr σ K = runC C P rd (.seq (.sq [⟨some 9, none, .mv false (.t 2)⟩,
    ⟨some 10, none, .bin .eql .sc (.t 9) (.c (.int .i64 0))⟩,
    ⟨some 11, none, .mv false (.t 10)⟩,
    ⟨some 12, some (11, true), .mv false (.t 1)⟩,
    ⟨some 13, some (11, true), .bin .neq (.ref 0) (.t 12) (.c .nilP)⟩,
    ⟨some 14, none, .pick (.t 11) (.t 13) (.c (.bool false))⟩,
    ⟨some 15, none, .mv false (.t 14)⟩,
    ⟨some 16, some (15, true), .mv false (.t 1)⟩,
    ⟨some 17, some (15, true), .call (.f f_hourglasslaw17_k) [(.c (.str [97]))]⟩,
    ⟨some 18, some (15, true), .call (.f f_route_Table_Of) [(.t 16), (.t 17)]⟩,
    ⟨some 19, some (15, true), .bin .eql .sc (.t 18) (.c (.int .i64 0))⟩,
    ⟨some 20, none, .pick (.t 15) (.t 19) (.c (.bool false))⟩,
    ⟨some 21, none, .mv false (.t 20)⟩,
    ⟨some 22, some (21, true), .mv false (.t 1)⟩,
    ⟨some 23, some (21, true), .call (.f f_hourglasslaw17_k) [(.c (.str [109]))]⟩,
    ⟨some 24, some (21, true), .call (.f f_route_Table_Of) [(.t 22), (.t 23)]⟩,
    ⟨some 25, some (21, true), .bin .eql .sc (.t 24) (.c (.int .i64 1))⟩,
    ⟨some 26, none, .pick (.t 21) (.t 25) (.c (.bool false))⟩,
    ⟨some 27, none, .mv false (.t 26)⟩,
    ⟨some 28, some (27, true), .mv false (.t 1)⟩,
    ⟨some 29, some (27, true), .call (.f f_route_Table_Nodes) [(.t 28)]⟩,
    ⟨some 30, some (27, true), .bin .eql .sc (.t 29) (.c (.int .i64 2))⟩,
    ⟨some 31, none, .pick (.t 27) (.t 30) (.c (.bool false))⟩,
    ⟨some 0, none, .mv true (.t 31)⟩]) .ret) is fr σ K := (rfl)
def C_hourglasslaw17_awake_k2 (f_hourglasslaw17_k f_route_New f_route_Table_Of f_route_Table_Nodes : FuncId) : LCode := (.seq (.sq [⟨some 4, none, .call (.f f_hourglasslaw17_k) [(.c (.str [109]))]⟩,
    ⟨some 5, none, .bsl ⟨16, true, 16, (.agg zk)⟩ 1 [(0, (.t 4))]⟩,
    ⟨some 6, none, .call (.f f_route_New) [(.t 5)]⟩,
    ⟨some 3, none, .mv false (.t 6)⟩,
    ⟨some 7, none, .ext (.t 3) 0⟩,
    ⟨some 8, none, .ext (.t 3) 1⟩,
    ⟨some 1, none, .mv true (.t 7)⟩,
    ⟨some 2, none, .mv true (.t 8)⟩]) (C_hourglasslaw17_awake_k1 f_hourglasslaw17_k f_route_New f_route_Table_Of f_route_Table_Nodes))
theorem u_C_hourglasslaw17_awake_k2 {C : CallW} {P : Program} {rd : Bool} {is : List Item} {fr : Fr} {σ : St} {K : KC} (f_hourglasslaw17_k f_route_New f_route_Table_Of f_route_Table_Nodes : FuncId) : runC C P rd (C_hourglasslaw17_awake_k2 f_hourglasslaw17_k f_route_New f_route_Table_Of f_route_Table_Nodes) is fr σ K = runC C P rd (.seq (.sq [⟨some 4, none, .call (.f f_hourglasslaw17_k) [(.c (.str [109]))]⟩,
    ⟨some 5, none, .bsl ⟨16, true, 16, (.agg zk)⟩ 1 [(0, (.t 4))]⟩,
    ⟨some 6, none, .call (.f f_route_New) [(.t 5)]⟩,
    ⟨some 3, none, .mv false (.t 6)⟩,
    ⟨some 7, none, .ext (.t 3) 0⟩,
    ⟨some 8, none, .ext (.t 3) 1⟩,
    ⟨some 1, none, .mv true (.t 7)⟩,
    ⟨some 2, none, .mv true (.t 8)⟩]) (C_hourglasslaw17_awake_k1 f_hourglasslaw17_k f_route_New f_route_Table_Of f_route_Table_Nodes)) is fr σ K := (rfl)
def C_hourglasslaw17_awake (f_hourglasslaw17_k f_route_New f_route_Table_Of f_route_Table_Nodes : FuncId) : LFn :=
  ⟨32, [.t 0], (.seq (.sq [⟨some 0, none, .mv true (.c (.bool false))⟩]) (C_hourglasslaw17_awake_k2 f_hourglasslaw17_k f_route_New f_route_Table_Of f_route_Table_Nodes))⟩

def C_hourglasslaw17_long_k1 : LCode := (.sq [⟨some 11, none, .mv false (.t 3)⟩,
        ⟨some 12, none, .bin .add .sc (.t 11) (.c (.int .i64 1))⟩,
        ⟨some 3, none, .mv true (.t 12)⟩])
theorem u_C_hourglasslaw17_long_k1 {C : CallW} {P : Program} {rd : Bool} {is : List Item} {fr : Fr} {σ : St} {K : KC} : runC C P rd C_hourglasslaw17_long_k1 is fr σ K = runC C P rd (.sq [⟨some 11, none, .mv false (.t 3)⟩,
        ⟨some 12, none, .bin .add .sc (.t 11) (.c (.int .i64 1))⟩,
        ⟨some 3, none, .mv true (.t 12)⟩]) is fr σ K := (rfl)
def C_hourglasslaw17_long_k2 : LCode := (.seq (.block 1 (.seq (.sq [⟨some 13, none, .mv false (.t 0)⟩,
          ⟨some 14, none, .mv false (.t 3)⟩,
          ⟨some 15, none, .ixa (.sl 18) (.t 13) (.t 14)⟩,
          ⟨some 16, none, .shift 16 (.t 15)⟩,
          ⟨some 17, none, .load1 false (.t 16)⟩,
          ⟨some 18, none, .len .str (.t 17)⟩,
          ⟨some 19, none, .bin .gtr .sc (.t 18) (.c (.int .i64 250))⟩]) (.cond (.t 19) (.seq (.sq [⟨some 2, none, .mv true (.c (.bool true))⟩]) .ret) .skip))) C_hourglasslaw17_long_k1)
theorem u_C_hourglasslaw17_long_k2 {C : CallW} {P : Program} {rd : Bool} {is : List Item} {fr : Fr} {σ : St} {K : KC} : runC C P rd C_hourglasslaw17_long_k2 is fr σ K = runC C P rd (.seq (.block 1 (.seq (.sq [⟨some 13, none, .mv false (.t 0)⟩,
          ⟨some 14, none, .mv false (.t 3)⟩,
          ⟨some 15, none, .ixa (.sl 18) (.t 13) (.t 14)⟩,
          ⟨some 16, none, .shift 16 (.t 15)⟩,
          ⟨some 17, none, .load1 false (.t 16)⟩,
          ⟨some 18, none, .len .str (.t 17)⟩,
          ⟨some 19, none, .bin .gtr .sc (.t 18) (.c (.int .i64 250))⟩]) (.cond (.t 19) (.seq (.sq [⟨some 2, none, .mv true (.c (.bool true))⟩]) .ret) .skip))) C_hourglasslaw17_long_k1) is fr σ K := (rfl)
def C_hourglasslaw17_long_k3 : LCode := (.seq (.seq (.sq [⟨some 7, none, .mv false (.t 3)⟩,
        ⟨some 8, none, .mv false (.t 0)⟩,
        ⟨some 9, none, .len .sl (.t 8)⟩,
        ⟨some 10, none, .bin .lss .sc (.t 7) (.t 9)⟩]) (.cond (.t 10) .skip (.exit 0))) C_hourglasslaw17_long_k2)
theorem u_C_hourglasslaw17_long_k3 {C : CallW} {P : Program} {rd : Bool} {is : List Item} {fr : Fr} {σ : St} {K : KC} : runC C P rd C_hourglasslaw17_long_k3 is fr σ K = runC C P rd (.seq (.seq (.sq [⟨some 7, none, .mv false (.t 3)⟩,
        ⟨some 8, none, .mv false (.t 0)⟩,
        ⟨some 9, none, .len .sl (.t 8)⟩,
        ⟨some 10, none, .bin .lss .sc (.t 7) (.t 9)⟩]) (.cond (.t 10) .skip (.exit 0))) C_hourglasslaw17_long_k2) is fr σ K := (rfl)
def C_hourglasslaw17_long_k4 : LCode := (.block 0 (.loop [true, false, false, true, false, false, false, false, false, false, false, false, false, false, false, false, false, false, false, false] C_hourglasslaw17_long_k3))
theorem u_C_hourglasslaw17_long_k4 {C : CallW} {P : Program} {rd : Bool} {is : List Item} {fr : Fr} {σ : St} {K : KC} : runC C P rd C_hourglasslaw17_long_k4 is fr σ K = runC C P rd (.block 0 (.loop [true, false, false, true, false, false, false, false, false, false, false, false, false, false, false, false, false, false, false, false] C_hourglasslaw17_long_k3)) is fr σ K := (rfl)
def C_hourglasslaw17_long_k5 : LCode := (.seq (.seq (.sq [⟨some 3, none, .mv true (.c (.int .i64 0))⟩]) C_hourglasslaw17_long_k4) (.seq (.sq [⟨some 2, none, .mv true (.c (.bool false))⟩]) .ret))
theorem u_C_hourglasslaw17_long_k5 {C : CallW} {P : Program} {rd : Bool} {is : List Item} {fr : Fr} {σ : St} {K : KC} : runC C P rd C_hourglasslaw17_long_k5 is fr σ K = runC C P rd (.seq (.seq (.sq [⟨some 3, none, .mv true (.c (.int .i64 0))⟩]) C_hourglasslaw17_long_k4) (.seq (.sq [⟨some 2, none, .mv true (.c (.bool false))⟩]) .ret)) is fr σ K := (rfl)
def C_hourglasslaw17_long_k6 : LCode := (.seq (.seq (.sq [⟨some 4, none, .mv false (.t 0)⟩,
    ⟨some 5, none, .len .sl (.t 4)⟩,
    ⟨some 6, none, .bin .gtr .sc (.t 5) (.c (.int .i64 20))⟩]) (.cond (.t 6) (.seq (.sq [⟨some 2, none, .mv true (.c (.bool true))⟩]) .ret) .skip)) C_hourglasslaw17_long_k5)
theorem u_C_hourglasslaw17_long_k6 {C : CallW} {P : Program} {rd : Bool} {is : List Item} {fr : Fr} {σ : St} {K : KC} : runC C P rd C_hourglasslaw17_long_k6 is fr σ K = runC C P rd (.seq (.seq (.sq [⟨some 4, none, .mv false (.t 0)⟩,
    ⟨some 5, none, .len .sl (.t 4)⟩,
    ⟨some 6, none, .bin .gtr .sc (.t 5) (.c (.int .i64 20))⟩]) (.cond (.t 6) (.seq (.sq [⟨some 2, none, .mv true (.c (.bool true))⟩]) .ret) .skip)) C_hourglasslaw17_long_k5) is fr σ K := (rfl)
def C_hourglasslaw17_long : LFn :=
  ⟨20, [.t 2], (.seq (.sq [⟨some 2, none, .mv true (.c (.bool false))⟩]) C_hourglasslaw17_long_k6)⟩

def C_hourglasslaw17_RouteWhole_k1 (f_hourglasslaw17_awake f_route_New f_hourglassref10_Good f_route_Table_Of f_route_Table_Nodes f_hourglassref10_Cmp f_route_Table_Cover f_hourglassref10_Within : FuncId) : LCode := (.seq (.tree (.rd ⟨some 86, none, .mv false (.t 17)⟩ 0 false (.rd ⟨some 87, none, .bin .gtr .sc (.t 86) (.c (.int .i64 0))⟩ 1 false (.rd ⟨some 88, none, .mv false (.t 87)⟩ 2 false (.rd ⟨some 89, some (88, true), .mv false (.t 15)⟩ 3 false (.rd ⟨some 90, some (88, true), .mv false (.t 17)⟩ 4 false (.rd ⟨some 91, some (88, true), .ixa (.sl 1) (.t 89) (.t 90)⟩ 5 false (.rd ⟨some 92, some (88, true), .load1 false (.t 91)⟩ 6 false (.rd ⟨some 93, some (88, true), .mv false (.t 15)⟩ 7 false (.rd ⟨some 94, some (88, true), .mv false (.t 17)⟩ 8 false (.rd ⟨some 95, some (88, true), .bin .sub .sc (.t 94) (.c (.int .i64 1))⟩ 9 false (.rd ⟨some 96, some (88, true), .ixa (.sl 1) (.t 93) (.t 95)⟩ 10 false (.rd ⟨some 97, some (88, true), .load1 false (.t 96)⟩ 11 false (.rd ⟨some 98, some (88, true), .bin .add .sc (.t 97) (.c (.int .i64 1))⟩ 12 false (.rd ⟨some 99, some (88, true), .bin .neq .sc (.t 92) (.t 98)⟩ 13 false (.rd ⟨some 100, none, .pick (.t 88) (.t 99) (.c (.bool false))⟩ 14 false .done)))))))))))))))) (.cond (.t 100) (.seq (.sq [⟨some 10, none, .mv true (.c (.bool false))⟩]) .ret) .skip))
theorem u_C_hourglasslaw17_RouteWhole_k1 {C : CallW} {P : Program} {rd : Bool} {is : List Item} {fr : Fr} {σ : St} {K : KC} (f_hourglasslaw17_awake f_route_New f_hourglassref10_Good f_route_Table_Of f_route_Table_Nodes f_hourglassref10_Cmp f_route_Table_Cover f_hourglassref10_Within : FuncId) : runC C P rd (C_hourglasslaw17_RouteWhole_k1 f_hourglasslaw17_awake f_route_New f_hourglassref10_Good f_route_Table_Of f_route_Table_Nodes f_hourglassref10_Cmp f_route_Table_Cover f_hourglassref10_Within) is fr σ K = runC C P rd (.seq (.tree (.rd ⟨some 86, none, .mv false (.t 17)⟩ 0 false (.rd ⟨some 87, none, .bin .gtr .sc (.t 86) (.c (.int .i64 0))⟩ 1 false (.rd ⟨some 88, none, .mv false (.t 87)⟩ 2 false (.rd ⟨some 89, some (88, true), .mv false (.t 15)⟩ 3 false (.rd ⟨some 90, some (88, true), .mv false (.t 17)⟩ 4 false (.rd ⟨some 91, some (88, true), .ixa (.sl 1) (.t 89) (.t 90)⟩ 5 false (.rd ⟨some 92, some (88, true), .load1 false (.t 91)⟩ 6 false (.rd ⟨some 93, some (88, true), .mv false (.t 15)⟩ 7 false (.rd ⟨some 94, some (88, true), .mv false (.t 17)⟩ 8 false (.rd ⟨some 95, some (88, true), .bin .sub .sc (.t 94) (.c (.int .i64 1))⟩ 9 false (.rd ⟨some 96, some (88, true), .ixa (.sl 1) (.t 93) (.t 95)⟩ 10 false (.rd ⟨some 97, some (88, true), .load1 false (.t 96)⟩ 11 false (.rd ⟨some 98, some (88, true), .bin .add .sc (.t 97) (.c (.int .i64 1))⟩ 12 false (.rd ⟨some 99, some (88, true), .bin .neq .sc (.t 92) (.t 98)⟩ 13 false (.rd ⟨some 100, none, .pick (.t 88) (.t 99) (.c (.bool false))⟩ 14 false .done)))))))))))))))) (.cond (.t 100) (.seq (.sq [⟨some 10, none, .mv true (.c (.bool false))⟩]) .ret) .skip)) is fr σ K := (rfl)
def C_hourglasslaw17_RouteWhole_k2 (f_hourglasslaw17_awake f_route_New f_hourglassref10_Good f_route_Table_Of f_route_Table_Nodes f_hourglassref10_Cmp f_route_Table_Cover f_hourglassref10_Within : FuncId) : LCode := (.sq [⟨some 75, none, .mv false (.t 17)⟩,
        ⟨some 76, none, .bin .add .sc (.t 75) (.c (.int .i64 1))⟩,
        ⟨some 17, none, .mv true (.t 76)⟩])
theorem u_C_hourglasslaw17_RouteWhole_k2 {C : CallW} {P : Program} {rd : Bool} {is : List Item} {fr : Fr} {σ : St} {K : KC} (f_hourglasslaw17_awake f_route_New f_hourglassref10_Good f_route_Table_Of f_route_Table_Nodes f_hourglassref10_Cmp f_route_Table_Cover f_hourglassref10_Within : FuncId) : runC C P rd (C_hourglasslaw17_RouteWhole_k2 f_hourglasslaw17_awake f_route_New f_hourglassref10_Good f_route_Table_Of f_route_Table_Nodes f_hourglassref10_Cmp f_route_Table_Cover f_hourglassref10_Within) is fr σ K = runC C P rd (.sq [⟨some 75, none, .mv false (.t 17)⟩,
        ⟨some 76, none, .bin .add .sc (.t 75) (.c (.int .i64 1))⟩,
        ⟨some 17, none, .mv true (.t 76)⟩]) is fr σ K := (rfl)
def C_hourglasslaw17_RouteWhole_k3 (f_hourglasslaw17_awake f_route_New f_hourglassref10_Good f_route_Table_Of f_route_Table_Nodes f_hourglassref10_Cmp f_route_Table_Cover f_hourglassref10_Within : FuncId) : LCode := (.seq (.block 1 (.seq (.sq [⟨some 77, none, .mv false (.t 16)⟩,
          ⟨some 78, none, .mv false (.t 77)⟩,
          ⟨some 79, some (78, false), .mv false (.t 15)⟩,
          ⟨some 80, some (78, false), .mv false (.t 17)⟩,
          ⟨some 81, some (78, false), .ixa (.sl 1) (.t 79) (.t 80)⟩,
          ⟨some 82, some (78, false), .load1 false (.t 81)⟩,
          ⟨some 83, some (78, false), .mv false (.t 13)⟩,
          ⟨some 84, some (78, false), .bin .eql .sc (.t 82) (.t 83)⟩,
          ⟨some 85, none, .pick (.t 78) (.c (.bool true)) (.t 84)⟩,
          ⟨some 16, none, .mv true (.t 85)⟩]) (C_hourglasslaw17_RouteWhole_k1 f_hourglasslaw17_awake f_route_New f_hourglassref10_Good f_route_Table_Of f_route_Table_Nodes f_hourglassref10_Cmp f_route_Table_Cover f_hourglassref10_Within))) (C_hourglasslaw17_RouteWhole_k2 f_hourglasslaw17_awake f_route_New f_hourglassref10_Good f_route_Table_Of f_route_Table_Nodes f_hourglassref10_Cmp f_route_Table_Cover f_hourglassref10_Within))
theorem u_C_hourglasslaw17_RouteWhole_k3 {C : CallW} {P : Program} {rd : Bool} {is : List Item} {fr : Fr} {σ : St} {K : KC} (f_hourglasslaw17_awake f_route_New f_hourglassref10_Good f_route_Table_Of f_route_Table_Nodes f_hourglassref10_Cmp f_route_Table_Cover f_hourglassref10_Within : FuncId) : runC C P rd (C_hourglasslaw17_RouteWhole_k3 f_hourglasslaw17_awake f_route_New f_hourglassref10_Good f_route_Table_Of f_route_Table_Nodes f_hourglassref10_Cmp f_route_Table_Cover f_hourglassref10_Within) is fr σ K = runC C P rd (.seq (.block 1 (.seq (.sq [⟨some 77, none, .mv false (.t 16)⟩,
          ⟨some 78, none, .mv false (.t 77)⟩,
          ⟨some 79, some (78, false), .mv false (.t 15)⟩,
          ⟨some 80, some (78, false), .mv false (.t 17)⟩,
          ⟨some 81, some (78, false), .ixa (.sl 1) (.t 79) (.t 80)⟩,
          ⟨some 82, some (78, false), .load1 false (.t 81)⟩,
          ⟨some 83, some (78, false), .mv false (.t 13)⟩,
          ⟨some 84, some (78, false), .bin .eql .sc (.t 82) (.t 83)⟩,
          ⟨some 85, none, .pick (.t 78) (.c (.bool true)) (.t 84)⟩,
          ⟨some 16, none, .mv true (.t 85)⟩]) (C_hourglasslaw17_RouteWhole_k1 f_hourglasslaw17_awake f_route_New f_hourglassref10_Good f_route_Table_Of f_route_Table_Nodes f_hourglassref10_Cmp f_route_Table_Cover f_hourglassref10_Within))) (C_hourglasslaw17_RouteWhole_k2 f_hourglasslaw17_awake f_route_New f_hourglassref10_Good f_route_Table_Of f_route_Table_Nodes f_hourglassref10_Cmp f_route_Table_Cover f_hourglassref10_Within)) is fr σ K := (rfl)
def C_hourglasslaw17_RouteWhole_k4 (f_hourglasslaw17_awake f_route_New f_hourglassref10_Good f_route_Table_Of f_route_Table_Nodes f_hourglassref10_Cmp f_route_Table_Cover f_hourglassref10_Within : FuncId) : LCode := (.seq (.seq (.sq [⟨some 71, none, .mv false (.t 17)⟩,
        ⟨some 72, none, .mv false (.t 15)⟩,
        ⟨some 73, none, .len .sl (.t 72)⟩,
        ⟨some 74, none, .bin .lss .sc (.t 71) (.t 73)⟩]) (.cond (.t 74) .skip (.exit 0))) (C_hourglasslaw17_RouteWhole_k3 f_hourglasslaw17_awake f_route_New f_hourglassref10_Good f_route_Table_Of f_route_Table_Nodes f_hourglassref10_Cmp f_route_Table_Cover f_hourglassref10_Within))
theorem u_C_hourglasslaw17_RouteWhole_k4 {C : CallW} {P : Program} {rd : Bool} {is : List Item} {fr : Fr} {σ : St} {K : KC} (f_hourglasslaw17_awake f_route_New f_hourglassref10_Good f_route_Table_Of f_route_Table_Nodes f_hourglassref10_Cmp f_route_Table_Cover f_hourglassref10_Within : FuncId) : runC C P rd (C_hourglasslaw17_RouteWhole_k4 f_hourglasslaw17_awake f_route_New f_hourglassref10_Good f_route_Table_Of f_route_Table_Nodes f_hourglassref10_Cmp f_route_Table_Cover f_hourglassref10_Within) is fr σ K = runC C P rd (.seq (.seq (.sq [⟨some 71, none, .mv false (.t 17)⟩,
        ⟨some 72, none, .mv false (.t 15)⟩,
        ⟨some 73, none, .len .sl (.t 72)⟩,
        ⟨some 74, none, .bin .lss .sc (.t 71) (.t 73)⟩]) (.cond (.t 74) .skip (.exit 0))) (C_hourglasslaw17_RouteWhole_k3 f_hourglasslaw17_awake f_route_New f_hourglassref10_Good f_route_Table_Of f_route_Table_Nodes f_hourglassref10_Cmp f_route_Table_Cover f_hourglassref10_Within)) is fr σ K := (rfl)
def C_hourglasslaw17_RouteWhole_k5 (f_hourglasslaw17_awake f_route_New f_hourglassref10_Good f_route_Table_Of f_route_Table_Nodes f_hourglassref10_Cmp f_route_Table_Cover f_hourglassref10_Within : FuncId) : LCode := (.block 0 (.loop [false, false, false, false, false, false, true, false, true, true, false, false, false, true, false, true, true, true, false, false, false, false, false, false, false, false, false, false, false, false, false, false, false, false, false, false, false, false, false, false, false, false, false, false, false, false, false, false, false, false, false, false, false, false, false, false, false, false, false, false, false, false, false, false, false, false, false, false, false, false, false, false, false, false, false, false, false, false, false, false, false, false, false, false, false, false, false, false, false, false, false, false, false, false, false, false, false, false, false, false, false, false, false, false, false, false, false, false, false] (C_hourglasslaw17_RouteWhole_k4 f_hourglasslaw17_awake f_route_New f_hourglassref10_Good f_route_Table_Of f_route_Table_Nodes f_hourglassref10_Cmp f_route_Table_Cover f_hourglassref10_Within)))
theorem u_C_hourglasslaw17_RouteWhole_k5 {C : CallW} {P : Program} {rd : Bool} {is : List Item} {fr : Fr} {σ : St} {K : KC} (f_hourglasslaw17_awake f_route_New f_hourglassref10_Good f_route_Table_Of f_route_Table_Nodes f_hourglassref10_Cmp f_route_Table_Cover f_hourglassref10_Within : FuncId) : runC C P rd (C_hourglasslaw17_RouteWhole_k5 f_hourglasslaw17_awake f_route_New f_hourglassref10_Good f_route_Table_Of f_route_Table_Nodes f_hourglassref10_Cmp f_route_Table_Cover f_hourglassref10_Within) is fr σ K = runC C P rd (.block 0 (.loop [false, false, false, false, false, false, true, false, true, true, false, false, false, true, false, true, true, true, false, false, false, false, false, false, false, false, false, false, false, false, false, false, false, false, false, false, false, false, false, false, false, false, false, false, false, false, false, false, false, false, false, false, false, false, false, false, false, false, false, false, false, false, false, false, false, false, false, false, false, false, false, false, false, false, false, false, false, false, false, false, false, false, false, false, false, false, false, false, false, false, false, false, false, false, false, false, false, false, false, false, false, false, false, false, false, false, false, false, false] (C_hourglasslaw17_RouteWhole_k4 f_hourglasslaw17_awake f_route_New f_hourglassref10_Good f_route_Table_Of f_route_Table_Nodes f_hourglassref10_Cmp f_route_Table_Cover f_hourglassref10_Within))) is fr σ K := (rfl)
def C_hourglasslaw17_RouteWhole_k6 (f_hourglasslaw17_awake f_route_New f_hourglassref10_Good f_route_Table_Of f_route_Table_Nodes f_hourglassref10_Cmp f_route_Table_Cover f_hourglassref10_Within : FuncId) : LCode := (.seq (.sq [⟨some 101, none, .mv false (.t 16)⟩,
    ⟨some 102, none, .mv false (.t 101)⟩,
    ⟨some 103, some (102, false), .loadA 16 (.t 6)⟩,
    ⟨some 104, some (102, false), .loadA 16 (.t 8)⟩,
    ⟨some 105, some (102, false), .loadA 16 (.t 9)⟩,
    ⟨some 106, some (102, false), .call (.f f_hourglassref10_Within) [(.t 103), (.t 104), (.t 105)]⟩,
    ⟨some 107, some (102, false), .un .not (.t 106)⟩,
    ⟨some 108, none, .pick (.t 102) (.c (.bool true)) (.t 107)⟩,
    ⟨some 10, none, .mv true (.t 108)⟩]) .ret)
theorem u_C_hourglasslaw17_RouteWhole_k6 {C : CallW} {P : Program} {rd : Bool} {is : List Item} {fr : Fr} {σ : St} {K : KC} (f_hourglasslaw17_awake f_route_New f_hourglassref10_Good f_route_Table_Of f_route_Table_Nodes f_hourglassref10_Cmp f_route_Table_Cover f_hourglassref10_Within : FuncId) : runC C P rd (C_hourglasslaw17_RouteWhole_k6 f_hourglasslaw17_awake f_route_New f_hourglassref10_Good f_route_Table_Of f_route_Table_Nodes f_hourglassref10_Cmp f_route_Table_Cover f_hourglassref10_Within) is fr σ K = runC C P rd (.seq (.sq [⟨some 101, none, .mv false (.t 16)⟩,
    ⟨some 102, none, .mv false (.t 101)⟩,
    ⟨some 103, some (102, false), .loadA 16 (.t 6)⟩,
    ⟨some 104, some (102, false), .loadA 16 (.t 8)⟩,
    ⟨some 105, some (102, false), .loadA 16 (.t 9)⟩,
    ⟨some 106, some (102, false), .call (.f f_hourglassref10_Within) [(.t 103), (.t 104), (.t 105)]⟩,
    ⟨some 107, some (102, false), .un .not (.t 106)⟩,
    ⟨some 108, none, .pick (.t 102) (.c (.bool true)) (.t 107)⟩,
    ⟨some 10, none, .mv true (.t 108)⟩]) .ret) is fr σ K := (rfl)
def C_hourglasslaw17_RouteWhole_k7 (f_hourglasslaw17_awake f_route_New f_hourglassref10_Good f_route_Table_Of f_route_Table_Nodes f_hourglassref10_Cmp f_route_Table_Cover f_hourglassref10_Within : FuncId) : LCode := (.seq (.seq (.sq [⟨some 17, none, .mv true (.c (.int .i64 0))⟩]) (C_hourglasslaw17_RouteWhole_k5 f_hourglasslaw17_awake f_route_New f_hourglassref10_Good f_route_Table_Of f_route_Table_Nodes f_hourglassref10_Cmp f_route_Table_Cover f_hourglassref10_Within)) (C_hourglasslaw17_RouteWhole_k6 f_hourglasslaw17_awake f_route_New f_hourglassref10_Good f_route_Table_Of f_route_Table_Nodes f_hourglassref10_Cmp f_route_Table_Cover f_hourglassref10_Within))
theorem u_C_hourglasslaw17_RouteWhole_k7 {C : CallW} {P : Program} {rd : Bool} {is : List Item} {fr : Fr} {σ : St} {K : KC} (f_hourglasslaw17_awake f_route_New f_hourglassref10_Good f_route_Table_Of f_route_Table_Nodes f_hourglassref10_Cmp f_route_Table_Cover f_hourglassref10_Within : FuncId) : runC C P rd (C_hourglasslaw17_RouteWhole_k7 f_hourglasslaw17_awake f_route_New f_hourglassref10_Good f_route_Table_Of f_route_Table_Nodes f_hourglassref10_Cmp f_route_Table_Cover f_hourglassref10_Within) is fr σ K = runC C P rd (.seq (.seq (.sq [⟨some 17, none, .mv true (.c (.int .i64 0))⟩]) (C_hourglasslaw17_RouteWhole_k5 f_hourglasslaw17_awake f_route_New f_hourglassref10_Good f_route_Table_Of f_route_Table_Nodes f_hourglassref10_Cmp f_route_Table_Cover f_hourglassref10_Within)) (C_hourglasslaw17_RouteWhole_k6 f_hourglasslaw17_awake f_route_New f_hourglassref10_Good f_route_Table_Of f_route_Table_Nodes f_hourglassref10_Cmp f_route_Table_Cover f_hourglassref10_Within)) is fr σ K := (rfl)
def C_hourglasslaw17_RouteWhole_k8 (f_hourglasslaw17_awake f_route_New f_hourglassref10_Good f_route_Table_Of f_route_Table_Nodes f_hourglassref10_Cmp f_route_Table_Cover f_hourglassref10_Within : FuncId) : LCode := (.seq (.sq [⟨some 16, none, .mv true (.c (.bool false))⟩]) (C_hourglasslaw17_RouteWhole_k7 f_hourglasslaw17_awake f_route_New f_hourglassref10_Good f_route_Table_Of f_route_Table_Nodes f_hourglassref10_Cmp f_route_Table_Cover f_hourglassref10_Within))
theorem u_C_hourglasslaw17_RouteWhole_k8 {C : CallW} {P : Program} {rd : Bool} {is : List Item} {fr : Fr} {σ : St} {K : KC} (f_hourglasslaw17_awake f_route_New f_hourglassref10_Good f_route_Table_Of f_route_Table_Nodes f_hourglassref10_Cmp f_route_Table_Cover f_hourglassref10_Within : FuncId) : runC C P rd (C_hourglasslaw17_RouteWhole_k8 f_hourglasslaw17_awake f_route_New f_hourglassref10_Good f_route_Table_Of f_route_Table_Nodes f_hourglassref10_Cmp f_route_Table_Cover f_hourglassref10_Within) is fr σ K = runC C P rd (.seq (.sq [⟨some 16, none, .mv true (.c (.bool false))⟩]) (C_hourglasslaw17_RouteWhole_k7 f_hourglasslaw17_awake f_route_New f_hourglassref10_Good f_route_Table_Of f_route_Table_Nodes f_hourglassref10_Cmp f_route_Table_Cover f_hourglassref10_Within)) is fr σ K := (rfl)
def C_hourglasslaw17_RouteWhole_k9 (f_hourglasslaw17_awake f_route_New f_hourglassref10_Good f_route_Table_Of f_route_Table_Nodes f_hourglassref10_Cmp f_route_Table_Cover f_hourglassref10_Within : FuncId) : LCode := (.seq (.sq [⟨some 67, none, .mv false (.t 11)⟩,
    ⟨some 68, none, .loadA 16 (.t 8)⟩,
    ⟨some 69, none, .loadA 16 (.t 9)⟩,
    ⟨some 70, none, .call (.f f_route_Table_Cover) [(.t 67), (.t 68), (.t 69)]⟩,
    ⟨some 15, none, .mv true (.t 70)⟩]) (C_hourglasslaw17_RouteWhole_k8 f_hourglasslaw17_awake f_route_New f_hourglassref10_Good f_route_Table_Of f_route_Table_Nodes f_hourglassref10_Cmp f_route_Table_Cover f_hourglassref10_Within))
theorem u_C_hourglasslaw17_RouteWhole_k9 {C : CallW} {P : Program} {rd : Bool} {is : List Item} {fr : Fr} {σ : St} {K : KC} (f_hourglasslaw17_awake f_route_New f_hourglassref10_Good f_route_Table_Of f_route_Table_Nodes f_hourglassref10_Cmp f_route_Table_Cover f_hourglassref10_Within : FuncId) : runC C P rd (C_hourglasslaw17_RouteWhole_k9 f_hourglasslaw17_awake f_route_New f_hourglassref10_Good f_route_Table_Of f_route_Table_Nodes f_hourglassref10_Cmp f_route_Table_Cover f_hourglassref10_Within) is fr σ K = runC C P rd (.seq (.sq [⟨some 67, none, .mv false (.t 11)⟩,
    ⟨some 68, none, .loadA 16 (.t 8)⟩,
    ⟨some 69, none, .loadA 16 (.t 9)⟩,
    ⟨some 70, none, .call (.f f_route_Table_Cover) [(.t 67), (.t 68), (.t 69)]⟩,
    ⟨some 15, none, .mv true (.t 70)⟩]) (C_hourglasslaw17_RouteWhole_k8 f_hourglasslaw17_awake f_route_New f_hourglassref10_Good f_route_Table_Of f_route_Table_Nodes f_hourglassref10_Cmp f_route_Table_Cover f_hourglassref10_Within)) is fr σ K := (rfl)
def C_hourglasslaw17_RouteWhole_k10 (f_hourglasslaw17_awake f_route_New f_hourglassref10_Good f_route_Table_Of f_route_Table_Nodes f_hourglassref10_Cmp f_route_Table_Cover f_hourglassref10_Within : FuncId) : LCode := (.seq (.seq (.sq [⟨some 48, none, .mv false (.t 13)⟩,
    ⟨some 49, none, .bin .lss .sc (.t 48) (.c (.int .i64 0))⟩,
    ⟨some 50, none, .mv false (.t 49)⟩,
    ⟨some 51, some (50, false), .mv false (.t 13)⟩,
    ⟨some 52, some (50, false), .mv false (.t 11)⟩,
    ⟨some 53, some (50, false), .call (.f f_route_Table_Nodes) [(.t 52)]⟩,
    ⟨some 54, some (50, false), .bin .geq .sc (.t 51) (.t 53)⟩,
    ⟨some 55, none, .pick (.t 50) (.c (.bool true)) (.t 54)⟩,
    ⟨some 56, none, .mv false (.t 55)⟩,
    ⟨some 57, some (56, false), .loadA 16 (.t 6)⟩,
    ⟨some 58, some (56, false), .loadA 16 (.t 7)⟩,
    ⟨some 59, some (56, false), .call (.f f_hourglassref10_Cmp) [(.t 57), (.t 58)]⟩,
    ⟨some 60, some (56, false), .bin .leq .sc (.t 59) (.c (.int .i64 0))⟩,
    ⟨some 61, some (56, false), .mv false (.t 60)⟩,
    ⟨some 62, some (61, true), .mv false (.t 13)⟩,
    ⟨some 63, some (61, true), .mv false (.t 14)⟩,
    ⟨some 64, some (61, true), .bin .gtr .sc (.t 62) (.t 63)⟩,
    ⟨some 65, some (56, false), .pick (.t 61) (.t 64) (.c (.bool false))⟩,
    ⟨some 66, none, .pick (.t 56) (.c (.bool true)) (.t 65)⟩]) (.cond (.t 66) (.seq (.sq [⟨some 10, none, .mv true (.c (.bool false))⟩]) .ret) .skip)) (C_hourglasslaw17_RouteWhole_k9 f_hourglasslaw17_awake f_route_New f_hourglassref10_Good f_route_Table_Of f_route_Table_Nodes f_hourglassref10_Cmp f_route_Table_Cover f_hourglassref10_Within))
theorem u_C_hourglasslaw17_RouteWhole_k10 {C : CallW} {P : Program} {rd : Bool} {is : List Item} {fr : Fr} {σ : St} {K : KC} (f_hourglasslaw17_awake f_route_New f_hourglassref10_Good f_route_Table_Of f_route_Table_Nodes f_hourglassref10_Cmp f_route_Table_Cover f_hourglassref10_Within : FuncId) : runC C P rd (C_hourglasslaw17_RouteWhole_k10 f_hourglasslaw17_awake f_route_New f_hourglassref10_Good f_route_Table_Of f_route_Table_Nodes f_hourglassref10_Cmp f_route_Table_Cover f_hourglassref10_Within) is fr σ K = runC C P rd (.seq (.seq (.sq [⟨some 48, none, .mv false (.t 13)⟩,
    ⟨some 49, none, .bin .lss .sc (.t 48) (.c (.int .i64 0))⟩,
    ⟨some 50, none, .mv false (.t 49)⟩,
    ⟨some 51, some (50, false), .mv false (.t 13)⟩,
    ⟨some 52, some (50, false), .mv false (.t 11)⟩,
    ⟨some 53, some (50, false), .call (.f f_route_Table_Nodes) [(.t 52)]⟩,
    ⟨some 54, some (50, false), .bin .geq .sc (.t 51) (.t 53)⟩,
    ⟨some 55, none, .pick (.t 50) (.c (.bool true)) (.t 54)⟩,
    ⟨some 56, none, .mv false (.t 55)⟩,
    ⟨some 57, some (56, false), .loadA 16 (.t 6)⟩,
    ⟨some 58, some (56, false), .loadA 16 (.t 7)⟩,
    ⟨some 59, some (56, false), .call (.f f_hourglassref10_Cmp) [(.t 57), (.t 58)]⟩,
    ⟨some 60, some (56, false), .bin .leq .sc (.t 59) (.c (.int .i64 0))⟩,
    ⟨some 61, some (56, false), .mv false (.t 60)⟩,
    ⟨some 62, some (61, true), .mv false (.t 13)⟩,
    ⟨some 63, some (61, true), .mv false (.t 14)⟩,
    ⟨some 64, some (61, true), .bin .gtr .sc (.t 62) (.t 63)⟩,
    ⟨some 65, some (56, false), .pick (.t 61) (.t 64) (.c (.bool false))⟩,
    ⟨some 66, none, .pick (.t 56) (.c (.bool true)) (.t 65)⟩]) (.cond (.t 66) (.seq (.sq [⟨some 10, none, .mv true (.c (.bool false))⟩]) .ret) .skip)) (C_hourglasslaw17_RouteWhole_k9 f_hourglasslaw17_awake f_route_New f_hourglassref10_Good f_route_Table_Of f_route_Table_Nodes f_hourglassref10_Cmp f_route_Table_Cover f_hourglassref10_Within)) is fr σ K := (rfl)
def C_hourglasslaw17_RouteWhole_k11 (f_hourglasslaw17_awake f_route_New f_hourglassref10_Good f_route_Table_Of f_route_Table_Nodes f_hourglassref10_Cmp f_route_Table_Cover f_hourglassref10_Within : FuncId) : LCode := (.seq (.tree (.rd ⟨some 42, none, .mv false (.t 11)⟩ 0 false (.rd ⟨some 43, none, .loadA 16 (.t 6)⟩ 1 false (.rd ⟨some 45, none, .mv false (.t 11)⟩ 3 true (.rd ⟨some 46, none, .loadA 16 (.t 7)⟩ 4 true (.mv ⟨some 44, none, .call (.f f_route_Table_Of) [(.t 42), (.t 43)]⟩ [0, 1] (.mv ⟨some 47, none, .call (.f f_route_Table_Of) [(.t 45), (.t 46)]⟩ [0, 1, 2, 3, 4] (.mv ⟨some 13, none, .mv true (.t 44)⟩ [0, 1, 2, 3, 4, 5] (.mv ⟨some 14, none, .mv true (.t 47)⟩ [0, 1, 2, 3, 4, 5, 6] .done .stop) .stop) .stop) .stop)))))) (C_hourglasslaw17_RouteWhole_k10 f_hourglasslaw17_awake f_route_New f_hourglassref10_Good f_route_Table_Of f_route_Table_Nodes f_hourglassref10_Cmp f_route_Table_Cover f_hourglassref10_Within))
theorem u_C_hourglasslaw17_RouteWhole_k11 {C : CallW} {P : Program} {rd : Bool} {is : List Item} {fr : Fr} {σ : St} {K : KC} (f_hourglasslaw17_awake f_route_New f_hourglassref10_Good f_route_Table_Of f_route_Table_Nodes f_hourglassref10_Cmp f_route_Table_Cover f_hourglassref10_Within : FuncId) : runC C P rd (C_hourglasslaw17_RouteWhole_k11 f_hourglasslaw17_awake f_route_New f_hourglassref10_Good f_route_Table_Of f_route_Table_Nodes f_hourglassref10_Cmp f_route_Table_Cover f_hourglassref10_Within) is fr σ K = runC C P rd (.seq (.tree (.rd ⟨some 42, none, .mv false (.t 11)⟩ 0 false (.rd ⟨some 43, none, .loadA 16 (.t 6)⟩ 1 false (.rd ⟨some 45, none, .mv false (.t 11)⟩ 3 true (.rd ⟨some 46, none, .loadA 16 (.t 7)⟩ 4 true (.mv ⟨some 44, none, .call (.f f_route_Table_Of) [(.t 42), (.t 43)]⟩ [0, 1] (.mv ⟨some 47, none, .call (.f f_route_Table_Of) [(.t 45), (.t 46)]⟩ [0, 1, 2, 3, 4] (.mv ⟨some 13, none, .mv true (.t 44)⟩ [0, 1, 2, 3, 4, 5] (.mv ⟨some 14, none, .mv true (.t 47)⟩ [0, 1, 2, 3, 4, 5, 6] .done .stop) .stop) .stop) .stop)))))) (C_hourglasslaw17_RouteWhole_k10 f_hourglasslaw17_awake f_route_New f_hourglassref10_Good f_route_Table_Of f_route_Table_Nodes f_hourglassref10_Cmp f_route_Table_Cover f_hourglassref10_Within)) is fr σ K := (rfl)
def C_hourglasslaw17_RouteWhole_k12 (f_hourglasslaw17_awake f_route_New f_hourglassref10_Good f_route_Table_Of f_route_Table_Nodes f_hourglassref10_Cmp f_route_Table_Cover f_hourglassref10_Within : FuncId) : LCode := (.seq (.seq (.sq [⟨some 25, none, .mv false (.t 12)⟩,
    ⟨some 26, none, .bin .neq .sc (.t 25) (.c (.int .i64 0))⟩,
    ⟨some 27, none, .mv false (.t 26)⟩,
    ⟨some 28, some (27, false), .mv false (.t 0)⟩,
    ⟨some 29, some (27, false), .len .sl (.t 28)⟩,
    ⟨some 30, some (27, false), .bin .gtr .sc (.t 29) (.c (.int .i64 7))⟩,
    ⟨some 31, none, .pick (.t 27) (.c (.bool true)) (.t 30)⟩,
    ⟨some 32, none, .mv false (.t 31)⟩,
    ⟨some 33, some (32, false), .loadA 16 (.t 6)⟩,
    ⟨some 34, some (32, false), .call (.f f_hourglassref10_Good) [(.t 33)]⟩,
    ⟨some 35, some (32, false), .un .not (.t 34)⟩,
    ⟨some 36, none, .pick (.t 32) (.c (.bool true)) (.t 35)⟩,
    ⟨some 37, none, .mv false (.t 36)⟩,
    ⟨some 38, some (37, false), .loadA 16 (.t 7)⟩,
    ⟨some 39, some (37, false), .call (.f f_hourglassref10_Good) [(.t 38)]⟩,
    ⟨some 40, some (37, false), .un .not (.t 39)⟩,
    ⟨some 41, none, .pick (.t 37) (.c (.bool true)) (.t 40)⟩]) (.cond (.t 41) (.seq (.sq [⟨some 10, none, .mv true (.c (.bool true))⟩]) .ret) .skip)) (C_hourglasslaw17_RouteWhole_k11 f_hourglasslaw17_awake f_route_New f_hourglassref10_Good f_route_Table_Of f_route_Table_Nodes f_hourglassref10_Cmp f_route_Table_Cover f_hourglassref10_Within))
theorem u_C_hourglasslaw17_RouteWhole_k12 {C : CallW} {P : Program} {rd : Bool} {is : List Item} {fr : Fr} {σ : St} {K : KC} (f_hourglasslaw17_awake f_route_New f_hourglassref10_Good f_route_Table_Of f_route_Table_Nodes f_hourglassref10_Cmp f_route_Table_Cover f_hourglassref10_Within : FuncId) : runC C P rd (C_hourglasslaw17_RouteWhole_k12 f_hourglasslaw17_awake f_route_New f_hourglassref10_Good f_route_Table_Of f_route_Table_Nodes f_hourglassref10_Cmp f_route_Table_Cover f_hourglassref10_Within) is fr σ K = runC C P rd (.seq (.seq (.sq [⟨some 25, none, .mv false (.t 12)⟩,
    ⟨some 26, none, .bin .neq .sc (.t 25) (.c (.int .i64 0))⟩,
    ⟨some 27, none, .mv false (.t 26)⟩,
    ⟨some 28, some (27, false), .mv false (.t 0)⟩,
    ⟨some 29, some (27, false), .len .sl (.t 28)⟩,
    ⟨some 30, some (27, false), .bin .gtr .sc (.t 29) (.c (.int .i64 7))⟩,
    ⟨some 31, none, .pick (.t 27) (.c (.bool true)) (.t 30)⟩,
    ⟨some 32, none, .mv false (.t 31)⟩,
    ⟨some 33, some (32, false), .loadA 16 (.t 6)⟩,
    ⟨some 34, some (32, false), .call (.f f_hourglassref10_Good) [(.t 33)]⟩,
    ⟨some 35, some (32, false), .un .not (.t 34)⟩,
    ⟨some 36, none, .pick (.t 32) (.c (.bool true)) (.t 35)⟩,
    ⟨some 37, none, .mv false (.t 36)⟩,
    ⟨some 38, some (37, false), .loadA 16 (.t 7)⟩,
    ⟨some 39, some (37, false), .call (.f f_hourglassref10_Good) [(.t 38)]⟩,
    ⟨some 40, some (37, false), .un .not (.t 39)⟩,
    ⟨some 41, none, .pick (.t 37) (.c (.bool true)) (.t 40)⟩]) (.cond (.t 41) (.seq (.sq [⟨some 10, none, .mv true (.c (.bool true))⟩]) .ret) .skip)) (C_hourglasslaw17_RouteWhole_k11 f_hourglasslaw17_awake f_route_New f_hourglassref10_Good f_route_Table_Of f_route_Table_Nodes f_hourglassref10_Cmp f_route_Table_Cover f_hourglassref10_Within)) is fr σ K := (rfl)
def C_hourglasslaw17_RouteWhole_k13 (f_hourglasslaw17_awake f_route_New f_hourglassref10_Good f_route_Table_Of f_route_Table_Nodes f_hourglassref10_Cmp f_route_Table_Cover f_hourglassref10_Within : FuncId) : LCode := (.seq (.sq [⟨some 21, none, .mv false (.t 0)⟩,
    ⟨some 22, none, .call (.f f_route_New) [(.t 21)]⟩,
    ⟨some 20, none, .mv false (.t 22)⟩,
    ⟨some 23, none, .ext (.t 20) 0⟩,
    ⟨some 24, none, .ext (.t 20) 1⟩,
    ⟨some 11, none, .mv true (.t 23)⟩,
    ⟨some 12, none, .mv true (.t 24)⟩]) (C_hourglasslaw17_RouteWhole_k12 f_hourglasslaw17_awake f_route_New f_hourglassref10_Good f_route_Table_Of f_route_Table_Nodes f_hourglassref10_Cmp f_route_Table_Cover f_hourglassref10_Within))
theorem u_C_hourglasslaw17_RouteWhole_k13 {C : CallW} {P : Program} {rd : Bool} {is : List Item} {fr : Fr} {σ : St} {K : KC} (f_hourglasslaw17_awake f_route_New f_hourglassref10_Good f_route_Table_Of f_route_Table_Nodes f_hourglassref10_Cmp f_route_Table_Cover f_hourglassref10_Within : FuncId) : runC C P rd (C_hourglasslaw17_RouteWhole_k13 f_hourglasslaw17_awake f_route_New f_hourglassref10_Good f_route_Table_Of f_route_Table_Nodes f_hourglassref10_Cmp f_route_Table_Cover f_hourglassref10_Within) is fr σ K = runC C P rd (.seq (.sq [⟨some 21, none, .mv false (.t 0)⟩,
    ⟨some 22, none, .call (.f f_route_New) [(.t 21)]⟩,
    ⟨some 20, none, .mv false (.t 22)⟩,
    ⟨some 23, none, .ext (.t 20) 0⟩,
    ⟨some 24, none, .ext (.t 20) 1⟩,
    ⟨some 11, none, .mv true (.t 23)⟩,
    ⟨some 12, none, .mv true (.t 24)⟩]) (C_hourglasslaw17_RouteWhole_k12 f_hourglasslaw17_awake f_route_New f_hourglassref10_Good f_route_Table_Of f_route_Table_Nodes f_hourglassref10_Cmp f_route_Table_Cover f_hourglassref10_Within)) is fr σ K := (rfl)
def C_hourglasslaw17_RouteWhole_k14 (f_hourglasslaw17_awake f_route_New f_hourglassref10_Good f_route_Table_Of f_route_Table_Nodes f_hourglassref10_Cmp f_route_Table_Cover f_hourglassref10_Within : FuncId) : LCode := (.seq (.seq (.sq [⟨some 18, none, .call (.f f_hourglasslaw17_awake) []⟩,
    ⟨some 19, none, .un .not (.t 18)⟩]) (.cond (.t 19) (.seq (.sq [⟨some 10, none, .mv true (.c (.bool false))⟩]) .ret) .skip)) (C_hourglasslaw17_RouteWhole_k13 f_hourglasslaw17_awake f_route_New f_hourglassref10_Good f_route_Table_Of f_route_Table_Nodes f_hourglassref10_Cmp f_route_Table_Cover f_hourglassref10_Within))
theorem u_C_hourglasslaw17_RouteWhole_k14 {C : CallW} {P : Program} {rd : Bool} {is : List Item} {fr : Fr} {σ : St} {K : KC} (f_hourglasslaw17_awake f_route_New f_hourglassref10_Good f_route_Table_Of f_route_Table_Nodes f_hourglassref10_Cmp f_route_Table_Cover f_hourglassref10_Within : FuncId) : runC C P rd (C_hourglasslaw17_RouteWhole_k14 f_hourglasslaw17_awake f_route_New f_hourglassref10_Good f_route_Table_Of f_route_Table_Nodes f_hourglassref10_Cmp f_route_Table_Cover f_hourglassref10_Within) is fr σ K = runC C P rd (.seq (.seq (.sq [⟨some 18, none, .call (.f f_hourglasslaw17_awake) []⟩,
    ⟨some 19, none, .un .not (.t 18)⟩]) (.cond (.t 19) (.seq (.sq [⟨some 10, none, .mv true (.c (.bool false))⟩]) .ret) .skip)) (C_hourglasslaw17_RouteWhole_k13 f_hourglasslaw17_awake f_route_New f_hourglassref10_Good f_route_Table_Of f_route_Table_Nodes f_hourglassref10_Cmp f_route_Table_Cover f_hourglassref10_Within)) is fr σ K := (rfl)
def C_hourglasslaw17_RouteWhole (f_hourglasslaw17_awake f_route_New f_hourglassref10_Good f_route_Table_Of f_route_Table_Nodes f_hourglassref10_Cmp f_route_Table_Cover f_hourglassref10_Within : FuncId) : LFn :=
  ⟨109, [.t 10], (.seq (.sq [⟨some 6, none, .box false false (.t 1)⟩,
    ⟨some 7, none, .box false false (.t 2)⟩,
    ⟨some 8, none, .box false false (.t 3)⟩,
    ⟨some 9, none, .box false false (.t 4)⟩,
    ⟨some 10, none, .mv true (.c (.bool false))⟩]) (C_hourglasslaw17_RouteWhole_k14 f_hourglasslaw17_awake f_route_New f_hourglassref10_Good f_route_Table_Of f_route_Table_Nodes f_hourglassref10_Cmp f_route_Table_Cover f_hourglassref10_Within))⟩

end Go.AM
/-! Stamps. -/
namespace Go.AM
open Go
set_option linter.unusedVariables false

structure Stp where
  t : Int
  n : UInt8
  deriving DecidableEq

def stc (s : Stp) : List AV := [.s (.int .i64 s.t), u8 s.n]
def sA (s : Stp) : AV := .agg (stc s)
theorem stc_length (s : Stp) : (stc s).length = 2 := rfl
theorem stc_under {n : Nat} {s : Stp} : AV.under.go n (stc s) = true := rfl
theorem sA_under {n : Nat} {s : Stp} : AV.under n (sA s) = true := rfl
theorem look_stc (s : Stp) : (stc s).map AV.look = stc s := rfl
theorem fits_stc (s : Stp) : fitsL [.int .i64, .int .u8] (stc s) = true := rfl
theorem beq_stc (a b : Stp) : AV.beq.go (stc a) (stc b) = decide (a = b) := by
  cases a; cases b
  simp only [stc, AV.beq.go, AV.beq, u8_inj, Bool.and_true, Sc.int.injEq, true_and, Stp.mk.injEq, Bool.decide_and]
theorem take_stc (s : Stp) (r : List AV) : (stc s ++ r).take 2 = stc s := rfl
theorem drop_stc (s : Stp) (r : List AV) : (stc s ++ r).drop 2 = r := rfl
theorem stc_get0 (s : Stp) : (stc s)[0]? = some (.s (.int .i64 s.t)) := rfl
theorem stc_get1 (s : Stp) : (stc s)[1]? = some (u8 s.n) := rfl
theorem u8_lt' {x y : UInt8} : ((x.toNat : Int) < (y.toNat : Int)) = (x < y) := by rw [UInt8.lt_iff_toNat_lt]; exact propext (by omega)
theorem u8_eq' {x y : UInt8} : ((x.toNat : Int) = (y.toNat : Int)) = (x = y) := propext ⟨fun h => UInt8.toNat_inj.1 (by omega), fun h => by rw [h]⟩

/-- Which stamp is less. -/
def cmpS (a b : Stp) : Int := if a.t < b.t then -1 else if b.t < a.t then 1 else if a.n < b.n then -1 else if b.n < a.n then 1 else 0
def goodS (a : Stp) : Bool := decide (0 ≤ a.t) && decide (a.t ≤ 36028797018963967)

/-- A function that only answers. -/
def FnS (C : CallW) (f : FuncId) (args : List AV) (v : AV) : Prop := ∀ S H (K : AV → St → Prop), K v ⟨S, H⟩ → C (.fn f) args ⟨S, H⟩ K
end Go.AM
/-! The equations of a run, bundled. -/
namespace Go.AM
open Go
set_option linter.unusedVariables false
theorem K5_ :
  (((((type_of% @Go.AM.runC_rfun ∧ type_of% @Go.AM.rfn_fn) ∧ (type_of% @Go.AM.rfK_eq ∧ (type_of% @Go.AM.rfE_norm ∧ type_of% @Go.AM.rfE_ret))) ∧ ((type_of% @Go.AM.rfE_exit ∧ type_of% @Go.AM.rnd1_n) ∧ (type_of% @Go.AM.rnd1_some ∧ (type_of% @Go.AM.rnd2_e ∧ type_of% @Go.AM.rnd2_norm)))) ∧ (((type_of% @Go.AM.rnd2_ret ∧ type_of% @Go.AM.rnd2_exit) ∧ (type_of% @Go.AM.loopO_some ∧ (type_of% @Go.AM.setAll.eq_1 ∧ type_of% @Go.AM.setAll.eq_2))) ∧ ((type_of% @Go.AM.lasting.eq_1 ∧ (type_of% @Go.AM.stc_length ∧ type_of% @Go.AM.stc_under)) ∧ (type_of% @Go.AM.sA_under ∧ (type_of% @Go.AM.look_stc ∧ type_of% @Go.AM.fits_stc))))) ∧ ((((type_of% @Go.AM.beq_stc ∧ type_of% @Go.AM.take_stc) ∧ (type_of% @Go.AM.drop_stc ∧ (type_of% @Go.AM.stc_get0 ∧ type_of% @Go.AM.stc_get1))) ∧ ((type_of% @Go.AM.LK.fits.eq_1 ∧ type_of% @Go.AM.LK.fits.eq_2) ∧ (type_of% @Go.AM.LK.fits.eq_3 ∧ (type_of% @Go.AM.LK.fits.eq_4 ∧ type_of% @Go.AM.KK.fits.eq_1)))) ∧ (((type_of% @Go.AM.KK.fits.eq_2 ∧ type_of% @Go.AM.KK.fits.eq_3) ∧ (type_of% @Go.AM.u8_inj ∧ (type_of% @Go.AM.Sc.int.injEq ∧ type_of% @Go.AM.Sc.str.injEq))) ∧ ((type_of% @Go.AM.Sc.bool.injEq ∧ (type_of% @Go.AM.wrap_i64 ∧ type_of% @Bool.false_and)) ∧ (type_of% @Bool.and_false ∧ (type_of% @Nat.not_lt_zero ∧ type_of% @Go.AM.beq_refl)))))) :=
  ⟨⟨⟨⟨⟨@Go.AM.runC_rfun, @Go.AM.rfn_fn⟩, ⟨@Go.AM.rfK_eq, ⟨@Go.AM.rfE_norm, @Go.AM.rfE_ret⟩⟩⟩, ⟨⟨@Go.AM.rfE_exit, @Go.AM.rnd1_n⟩, ⟨@Go.AM.rnd1_some, ⟨@Go.AM.rnd2_e, @Go.AM.rnd2_norm⟩⟩⟩⟩, ⟨⟨⟨@Go.AM.rnd2_ret, @Go.AM.rnd2_exit⟩, ⟨@Go.AM.loopO_some, ⟨@Go.AM.setAll.eq_1, @Go.AM.setAll.eq_2⟩⟩⟩, ⟨⟨@Go.AM.lasting.eq_1, ⟨@Go.AM.stc_length, @Go.AM.stc_under⟩⟩, ⟨@Go.AM.sA_under, ⟨@Go.AM.look_stc, @Go.AM.fits_stc⟩⟩⟩⟩⟩, ⟨⟨⟨⟨@Go.AM.beq_stc, @Go.AM.take_stc⟩, ⟨@Go.AM.drop_stc, ⟨@Go.AM.stc_get0, @Go.AM.stc_get1⟩⟩⟩, ⟨⟨@Go.AM.LK.fits.eq_1, @Go.AM.LK.fits.eq_2⟩, ⟨@Go.AM.LK.fits.eq_3, ⟨@Go.AM.LK.fits.eq_4, @Go.AM.KK.fits.eq_1⟩⟩⟩⟩, ⟨⟨⟨@Go.AM.KK.fits.eq_2, @Go.AM.KK.fits.eq_3⟩, ⟨@Go.AM.u8_inj, ⟨@Go.AM.Sc.int.injEq, @Go.AM.Sc.str.injEq⟩⟩⟩, ⟨⟨@Go.AM.Sc.bool.injEq, ⟨@Go.AM.wrap_i64, @Bool.false_and⟩⟩, ⟨@Bool.and_false, ⟨@Nat.not_lt_zero, @Go.AM.beq_refl⟩⟩⟩⟩⟩⟩
end Go.AM
/-! Stamps: what the functions of stamp and of hourglassref6 answer. -/
namespace Go.AM
open Go
set_option maxRecDepth 20000
set_option linter.unusedSimpArgs false
set_option linter.unusedVariables false

theorem isNaN_spec {C : CallW} (P : Program) (x : Int) : ∀ S H (K : AV → St → Prop), K (.bool false) ⟨S, H⟩ → runL C P C_cmp_isNaN_int64 [.s (.int .i64 x)] ⟨S, H⟩ K := by
  intro S H K hK
  simp only [C_cmp_isNaN_int64, RUN_, U_cmp_isNaN_int64, FR_, Nat.reducePow, Int.reducePow, Nat.reduceAdd, Nat.reduceSub, Nat.reduceMul, Int.reduceToNat, Nat.reduceLeDiff, Nat.reduceEqDiff, Nat.reduceLT, Nat.reduceGT, Int.reduceGT, Int.reduceGE, Int.reduceLT, Int.reduceLE, Int.reduceEq, Int.reduceAdd, Int.reduceSub, Int.reduceNeg, reduceCtorEq, if_true, if_false, ite_true, ite_false, ne_eq, eq_self, OPK_, KEY_]
  exact hK
theorem isNaN8_spec {C : CallW} (P : Program) (x : UInt8) : ∀ S H (K : AV → St → Prop), K (.bool false) ⟨S, H⟩ → runL C P C_cmp_isNaN_uint8 [u8 x] ⟨S, H⟩ K := by
  intro S H K hK
  simp only [u8, C_cmp_isNaN_uint8, RUN_, U_cmp_isNaN_uint8, FR_, Nat.reducePow, Int.reducePow, Nat.reduceAdd, Nat.reduceSub, Nat.reduceMul, Int.reduceToNat, Nat.reduceLeDiff, Nat.reduceEqDiff, Nat.reduceLT, Nat.reduceGT, Int.reduceGT, Int.reduceGE, Int.reduceLT, Int.reduceLE, Int.reduceEq, Int.reduceAdd, Int.reduceSub, Int.reduceNeg, reduceCtorEq, if_true, if_false, ite_true, ite_false, ne_eq, eq_self, OPK_, KEY_]
  exact hK
def cmpI (x y : Int) : Int := if x < y then -1 else if y < x then 1 else 0
def cmpU (x y : UInt8) : Int := if x < y then -1 else if y < x then 1 else 0
theorem Compare_spec {C : CallW} (P : Program) {c : Nat → FuncId} (h : ∀ x : Int, FnS C (c 0) [.s (.int .i64 x)] (.bool false)) (x y : Int) : ∀ S H (K : AV → St → Prop), K (.i (cmpI x y)) ⟨S, H⟩ → runL C P (C_cmp_Compare_int64 c) [.s (.int .i64 x), .s (.int .i64 y)] ⟨S, H⟩ K := by
  intro S H K hK
  simp only [C_cmp_Compare_int64, RUN_, U_cmp_Compare_int64, FR_, Nat.reducePow, Int.reducePow, Nat.reduceAdd, Nat.reduceSub, Nat.reduceMul, Int.reduceToNat, Nat.reduceLeDiff, Nat.reduceEqDiff, Nat.reduceLT, Nat.reduceGT, Int.reduceGT, Int.reduceGE, Int.reduceLT, Int.reduceLE, Int.reduceEq, Int.reduceAdd, Int.reduceSub, Int.reduceNeg, reduceCtorEq, if_true, if_false, ite_true, ite_false, ne_eq, eq_self, OPK_, KEY_]
  refine h _ _ _ _ ?_
  simp only [RUN_, U_cmp_Compare_int64, FR_, Nat.reducePow, Int.reducePow, Nat.reduceAdd, Nat.reduceSub, Nat.reduceMul, Int.reduceToNat, Nat.reduceLeDiff, Nat.reduceEqDiff, Nat.reduceLT, Nat.reduceGT, Int.reduceGT, Int.reduceGE, Int.reduceLT, Int.reduceLE, Int.reduceEq, Int.reduceAdd, Int.reduceSub, Int.reduceNeg, reduceCtorEq, if_true, if_false, ite_true, ite_false, ne_eq, eq_self, OPK_, KEY_]
  refine h _ _ _ _ ?_
  unfold cmpI at hK
  by_cases h1 : x < y
  · rw [if_pos h1] at hK
    simp only [RUN_, U_cmp_Compare_int64, FR_, Nat.reducePow, Int.reducePow, Nat.reduceAdd, Nat.reduceSub, Nat.reduceMul, Int.reduceToNat, Nat.reduceLeDiff, Nat.reduceEqDiff, Nat.reduceLT, Nat.reduceGT, Int.reduceGT, Int.reduceGE, Int.reduceLT, Int.reduceLE, Int.reduceEq, Int.reduceAdd, Int.reduceSub, Int.reduceNeg, reduceCtorEq, if_true, if_false, ite_true, ite_false, ne_eq, eq_self, OPK_, KEY_, h1]
    exact hK
  · rw [if_neg h1] at hK
    by_cases h2 : y < x
    · rw [if_pos h2] at hK
      simp only [RUN_, U_cmp_Compare_int64, FR_, Nat.reducePow, Int.reducePow, Nat.reduceAdd, Nat.reduceSub, Nat.reduceMul, Int.reduceToNat, Nat.reduceLeDiff, Nat.reduceEqDiff, Nat.reduceLT, Nat.reduceGT, Int.reduceGT, Int.reduceGE, Int.reduceLT, Int.reduceLE, Int.reduceEq, Int.reduceAdd, Int.reduceSub, Int.reduceNeg, reduceCtorEq, if_true, if_false, ite_true, ite_false, ne_eq, eq_self, OPK_, KEY_, h1, h2]
      exact hK
    · rw [if_neg h2] at hK
      simp only [RUN_, U_cmp_Compare_int64, FR_, Nat.reducePow, Int.reducePow, Nat.reduceAdd, Nat.reduceSub, Nat.reduceMul, Int.reduceToNat, Nat.reduceLeDiff, Nat.reduceEqDiff, Nat.reduceLT, Nat.reduceGT, Int.reduceGT, Int.reduceGE, Int.reduceLT, Int.reduceLE, Int.reduceEq, Int.reduceAdd, Int.reduceSub, Int.reduceNeg, reduceCtorEq, if_true, if_false, ite_true, ite_false, ne_eq, eq_self, OPK_, KEY_, h1, h2]
      exact hK
theorem Compare8_spec {C : CallW} (P : Program) {c : Nat → FuncId} (h : ∀ x : UInt8, FnS C (c 0) [u8 x] (.bool false)) (x y : UInt8) : ∀ S H (K : AV → St → Prop), K (.i (cmpU x y)) ⟨S, H⟩ → runL C P (C_cmp_Compare_uint8 c) [u8 x, u8 y] ⟨S, H⟩ K := by
  intro S H K hK
  have h' : ∀ (x : UInt8) S H (K : AV → St → Prop), K (.bool false) ⟨S, H⟩ → C (.fn (c 0)) [.s (.int .u8 x.toNat)] ⟨S, H⟩ K := h
  simp only [u8, C_cmp_Compare_uint8, RUN_, U_cmp_Compare_uint8, FR_, Nat.reducePow, Int.reducePow, Nat.reduceAdd, Nat.reduceSub, Nat.reduceMul, Int.reduceToNat, Nat.reduceLeDiff, Nat.reduceEqDiff, Nat.reduceLT, Nat.reduceGT, Int.reduceGT, Int.reduceGE, Int.reduceLT, Int.reduceLE, Int.reduceEq, Int.reduceAdd, Int.reduceSub, Int.reduceNeg, reduceCtorEq, if_true, if_false, ite_true, ite_false, ne_eq, eq_self, OPK_, KEY_]
  refine h' _ _ _ _ ?_
  simp only [RUN_, U_cmp_Compare_uint8, FR_, Nat.reducePow, Int.reducePow, Nat.reduceAdd, Nat.reduceSub, Nat.reduceMul, Int.reduceToNat, Nat.reduceLeDiff, Nat.reduceEqDiff, Nat.reduceLT, Nat.reduceGT, Int.reduceGT, Int.reduceGE, Int.reduceLT, Int.reduceLE, Int.reduceEq, Int.reduceAdd, Int.reduceSub, Int.reduceNeg, reduceCtorEq, if_true, if_false, ite_true, ite_false, ne_eq, eq_self, OPK_, KEY_]
  refine h' _ _ _ _ ?_
  unfold cmpU at hK
  by_cases h1 : x < y
  · rw [if_pos h1] at hK
    simp only [RUN_, U_cmp_Compare_uint8, FR_, Nat.reducePow, Int.reducePow, Nat.reduceAdd, Nat.reduceSub, Nat.reduceMul, Int.reduceToNat, Nat.reduceLeDiff, Nat.reduceEqDiff, Nat.reduceLT, Nat.reduceGT, Int.reduceGT, Int.reduceGE, Int.reduceLT, Int.reduceLE, Int.reduceEq, Int.reduceAdd, Int.reduceSub, Int.reduceNeg, reduceCtorEq, if_true, if_false, ite_true, ite_false, ne_eq, eq_self, OPK_, KEY_, u8_lt', h1]
    exact hK
  · rw [if_neg h1] at hK
    by_cases h2 : y < x
    · rw [if_pos h2] at hK
      simp only [RUN_, U_cmp_Compare_uint8, FR_, Nat.reducePow, Int.reducePow, Nat.reduceAdd, Nat.reduceSub, Nat.reduceMul, Int.reduceToNat, Nat.reduceLeDiff, Nat.reduceEqDiff, Nat.reduceLT, Nat.reduceGT, Int.reduceGT, Int.reduceGE, Int.reduceLT, Int.reduceLE, Int.reduceEq, Int.reduceAdd, Int.reduceSub, Int.reduceNeg, reduceCtorEq, if_true, if_false, ite_true, ite_false, ne_eq, eq_self, OPK_, KEY_, u8_lt', h1, h2]
      exact hK
    · rw [if_neg h2] at hK
      simp only [RUN_, U_cmp_Compare_uint8, FR_, Nat.reducePow, Int.reducePow, Nat.reduceAdd, Nat.reduceSub, Nat.reduceMul, Int.reduceToNat, Nat.reduceLeDiff, Nat.reduceEqDiff, Nat.reduceLT, Nat.reduceGT, Int.reduceGT, Int.reduceGE, Int.reduceLT, Int.reduceLE, Int.reduceEq, Int.reduceAdd, Int.reduceSub, Int.reduceNeg, reduceCtorEq, if_true, if_false, ite_true, ite_false, ne_eq, eq_self, OPK_, KEY_, u8_lt', h1, h2]
      exact hK
theorem Or_spec {C : CallW} (hC : LeC C C) (P : Program) (x y : Int) : ∀ S H (K : AV → St → Prop), K (.i (if x ≠ 0 then x else y)) ⟨S, H⟩ → runL C P C_cmp_Or_int [.list .sh 1 [.i x, .i y]] ⟨S, H⟩ K := by
  intro S H K hK
  have go : ∀ {n0 m b is fr K}, underL n0 (keep m fr) = true → runC C P false b (.lp m b n0 :: is) (keep m fr) ⟨S.take n0, H⟩ K → runLp C P false m b n0 is fr ⟨S, H⟩ K := fun hu h => loop_step hC rfl hu h
  have w1 : IntKind.i64.wrap 1 = 1 := by decide
  have w2 : IntKind.i64.wrap 2 = 2 := by decide
  simp only [C_cmp_Or_int, RUN_, U_cmp_Or_int, FR_, Nat.reducePow, Int.reducePow, Nat.reduceAdd, Nat.reduceSub, Nat.reduceMul, Int.reduceToNat, Nat.reduceLeDiff, Nat.reduceEqDiff, Nat.reduceLT, Nat.reduceGT, Int.reduceGT, Int.reduceGE, Int.reduceLT, Int.reduceLE, Int.reduceEq, Int.reduceAdd, Int.reduceSub, Int.reduceNeg, reduceCtorEq, if_true, if_false, ite_true, ite_false, ne_eq, eq_self, OPK_, KEY_]
  refine go (by simp [keep, AV.under, AV.under.go]) ?_
  simp only [keep, List.take_length]
  by_cases h1 : x = 0
  · have h1' : (x = 0) = True := eq_true h1
    rw [if_neg (by simpa using h1)] at hK
    simp only [RUN_, U_cmp_Or_int, FR_, Nat.reducePow, Int.reducePow, Nat.reduceAdd, Nat.reduceSub, Nat.reduceMul, Int.reduceToNat, Nat.reduceLeDiff, Nat.reduceEqDiff, Nat.reduceLT, Nat.reduceGT, Int.reduceGT, Int.reduceGE, Int.reduceLT, Int.reduceLE, Int.reduceEq, Int.reduceAdd, Int.reduceSub, Int.reduceNeg, reduceCtorEq, if_true, if_false, ite_true, ite_false, ne_eq, eq_self, OPK_, KEY_, indexAddrL, Int.toNat_zero, h1']
    refine go (by simp [keep, AV.under, AV.under.go]) ?_
    simp only [keep, List.take_length]
    by_cases h2 : y = 0
    · have h2' : (y = 0) = True := eq_true h2
      simp only [RUN_, U_cmp_Or_int, FR_, Nat.reducePow, Int.reducePow, Nat.reduceAdd, Nat.reduceSub, Nat.reduceMul, Int.reduceToNat, Nat.reduceLeDiff, Nat.reduceEqDiff, Nat.reduceLT, Nat.reduceGT, Int.reduceGT, Int.reduceGE, Int.reduceLT, Int.reduceLE, Int.reduceEq, Int.reduceAdd, Int.reduceSub, Int.reduceNeg, reduceCtorEq, if_true, if_false, ite_true, ite_false, ne_eq, eq_self, OPK_, KEY_, indexAddrL, w1, Int.toNat_one, h2']
      refine go (by simp [keep, AV.under, AV.under.go]) ?_
      simp only [keep, List.take_length]
      simp only [RUN_, U_cmp_Or_int, FR_, Nat.reducePow, Int.reducePow, Nat.reduceAdd, Nat.reduceSub, Nat.reduceMul, Int.reduceToNat, Nat.reduceLeDiff, Nat.reduceEqDiff, Nat.reduceLT, Nat.reduceGT, Int.reduceGT, Int.reduceGE, Int.reduceLT, Int.reduceLE, Int.reduceEq, Int.reduceAdd, Int.reduceSub, Int.reduceNeg, reduceCtorEq, if_true, if_false, ite_true, ite_false, ne_eq, eq_self, OPK_, KEY_, w2]
      rw [h2] at hK
      exact hK
    · simp only [RUN_, U_cmp_Or_int, FR_, Nat.reducePow, Int.reducePow, Nat.reduceAdd, Nat.reduceSub, Nat.reduceMul, Int.reduceToNat, Nat.reduceLeDiff, Nat.reduceEqDiff, Nat.reduceLT, Nat.reduceGT, Int.reduceGT, Int.reduceGE, Int.reduceLT, Int.reduceLE, Int.reduceEq, Int.reduceAdd, Int.reduceSub, Int.reduceNeg, reduceCtorEq, if_true, if_false, ite_true, ite_false, ne_eq, eq_self, OPK_, KEY_, indexAddrL, w1, Int.toNat_one, h2]
      exact hK
  · rw [if_pos h1] at hK
    simp only [RUN_, U_cmp_Or_int, FR_, Nat.reducePow, Int.reducePow, Nat.reduceAdd, Nat.reduceSub, Nat.reduceMul, Int.reduceToNat, Nat.reduceLeDiff, Nat.reduceEqDiff, Nat.reduceLT, Nat.reduceGT, Int.reduceGT, Int.reduceGE, Int.reduceLT, Int.reduceLE, Int.reduceEq, Int.reduceAdd, Int.reduceSub, Int.reduceNeg, reduceCtorEq, if_true, if_false, ite_true, ite_false, ne_eq, eq_self, OPK_, KEY_, indexAddrL, Int.toNat_zero, h1]
    exact hK
theorem cmpS_or (a b : Stp) : (if cmpI a.t b.t ≠ 0 then cmpI a.t b.t else cmpU a.n b.n) = cmpS a b := by
  unfold cmpI cmpU cmpS
  by_cases h1 : a.t < b.t
  · simp [h1]
  · by_cases h2 : b.t < a.t
    · simp [h1, h2]
    · simp [h1, h2]
theorem stamp_Cmp_spec {C : CallW} (hC : LeC C C) (hW : WkC C) (P : Program) {c : Nat → FuncId} (h0 : ∀ x y : Int, FnS C (c 0) [.s (.int .i64 x), .s (.int .i64 y)] (.i (cmpI x y))) (h1 : ∀ x y : UInt8, FnS C (c 1) [u8 x, u8 y] (.i (cmpU x y)))
    (h2 : ∀ x y : Int, FnS C (c 2) [.list .sh 1 [.i x, .i y]] (.i (if x ≠ 0 then x else y))) (a b : Stp) : ∀ S H (K : AV → St → Prop), K (.i (cmpS a b)) ⟨S, H⟩ → runL C P (C_stamp_Cmp c) [.agg (stc a), .agg (stc b)] ⟨S, H⟩ K := by
  intro S H K hK
  simp only [stc, C_stamp_Cmp, RUN_, U_stamp_Cmp, FR_, Nat.reducePow, Int.reducePow, Nat.reduceAdd, Nat.reduceSub, Nat.reduceMul, Int.reduceToNat, Nat.reduceLeDiff, Nat.reduceEqDiff, Nat.reduceLT, Nat.reduceGT, Int.reduceGT, Int.reduceGE, Int.reduceLT, Int.reduceLE, Int.reduceEq, Int.reduceAdd, Int.reduceSub, Int.reduceNeg, reduceCtorEq, if_true, if_false, ite_true, ite_false, ne_eq, eq_self, OPK_, KEY_, CHK_, Nat.reduceBEq, K5_]
  refine h0 _ _ _ _ _ ?_
  simp only [RUN_, U_stamp_Cmp, FR_, Nat.reducePow, Int.reducePow, Nat.reduceAdd, Nat.reduceSub, Nat.reduceMul, Int.reduceToNat, Nat.reduceLeDiff, Nat.reduceEqDiff, Nat.reduceLT, Nat.reduceGT, Int.reduceGT, Int.reduceGE, Int.reduceLT, Int.reduceLE, Int.reduceEq, Int.reduceAdd, Int.reduceSub, Int.reduceNeg, reduceCtorEq, if_true, if_false, ite_true, ite_false, ne_eq, eq_self, OPK_, KEY_, CHK_, Nat.reduceBEq, K5_]
  refine h1 _ _ _ _ _ ?_
  simp only [RUN_, U_stamp_Cmp, FR_, Nat.reducePow, Int.reducePow, Nat.reduceAdd, Nat.reduceSub, Nat.reduceMul, Int.reduceToNat, Nat.reduceLeDiff, Nat.reduceEqDiff, Nat.reduceLT, Nat.reduceGT, Int.reduceGT, Int.reduceGE, Int.reduceLT, Int.reduceLE, Int.reduceEq, Int.reduceAdd, Int.reduceSub, Int.reduceNeg, reduceCtorEq, if_true, if_false, ite_true, ite_false, ne_eq, eq_self, OPK_, KEY_, CHK_, Nat.reduceBEq, K5_, List.isEmpty_cons]
  refine hW _ _ [.list .sh 1 [.i _, .i _]] _ _ (.full .nil) ?_
  refine h2 _ _ _ _ _ ?_
  rw [cmpS_or]
  simp only [RUN_, U_stamp_Cmp, FR_, Nat.reducePow, Int.reducePow, Nat.reduceAdd, Nat.reduceSub, Nat.reduceMul, Int.reduceToNat, Nat.reduceLeDiff, Nat.reduceEqDiff, Nat.reduceLT, Nat.reduceGT, Int.reduceGT, Int.reduceGE, Int.reduceLT, Int.reduceLE, Int.reduceEq, Int.reduceAdd, Int.reduceSub, Int.reduceNeg, reduceCtorEq, if_true, if_false, ite_true, ite_false, ne_eq, eq_self, OPK_, KEY_, CHK_, Nat.reduceBEq, K5_]
  exact hK
theorem ref6_Cmp_spec {C : CallW} (P : Program) (a b : Stp) : ∀ S H (K : AV → St → Prop), K (.i (cmpS a b)) ⟨S, H⟩ → runL C P C_hourglassref6_Cmp [.agg (stc a), .agg (stc b)] ⟨S, H⟩ K := by
  intro S H K hK
  obtain ⟨at_, an⟩ := a
  obtain ⟨bt, bn⟩ := b
  unfold cmpS at hK
  dsimp only at hK
  by_cases h1 : at_ < bt
  · rw [if_pos h1] at hK
    simp only [stc, u8, C_hourglassref6_Cmp, RUN_, U_hourglassref6_Cmp, FR_, Nat.reducePow, Int.reducePow, Nat.reduceAdd, Nat.reduceSub, Nat.reduceMul, Int.reduceToNat, Nat.reduceLeDiff, Nat.reduceEqDiff, Nat.reduceLT, Nat.reduceGT, Int.reduceGT, Int.reduceGE, Int.reduceLT, Int.reduceLE, Int.reduceEq, Int.reduceAdd, Int.reduceSub, Int.reduceNeg, reduceCtorEq, if_true, if_false, ite_true, ite_false, ne_eq, eq_self, OPK_, KEY_, h1]
    exact hK
  · rw [if_neg h1] at hK
    by_cases h2 : bt < at_
    · rw [if_pos h2] at hK
      have h3 : ¬ (at_ = bt) := by omega
      simp only [stc, u8, C_hourglassref6_Cmp, RUN_, U_hourglassref6_Cmp, FR_, Nat.reducePow, Int.reducePow, Nat.reduceAdd, Nat.reduceSub, Nat.reduceMul, Int.reduceToNat, Nat.reduceLeDiff, Nat.reduceEqDiff, Nat.reduceLT, Nat.reduceGT, Int.reduceGT, Int.reduceGE, Int.reduceLT, Int.reduceLE, Int.reduceEq, Int.reduceAdd, Int.reduceSub, Int.reduceNeg, reduceCtorEq, if_true, if_false, ite_true, ite_false, ne_eq, eq_self, OPK_, KEY_, K5_, h1, h3]
      exact hK
    · rw [if_neg h2] at hK
      have h3 : at_ = bt := by omega
      subst h3
      by_cases h4 : an < bn
      · rw [if_pos h4] at hK
        simp only [stc, u8, C_hourglassref6_Cmp, RUN_, U_hourglassref6_Cmp, FR_, Nat.reducePow, Int.reducePow, Nat.reduceAdd, Nat.reduceSub, Nat.reduceMul, Int.reduceToNat, Nat.reduceLeDiff, Nat.reduceEqDiff, Nat.reduceLT, Nat.reduceGT, Int.reduceGT, Int.reduceGE, Int.reduceLT, Int.reduceLE, Int.reduceEq, Int.reduceAdd, Int.reduceSub, Int.reduceNeg, reduceCtorEq, if_true, if_false, ite_true, ite_false, ne_eq, eq_self, OPK_, KEY_, K5_, h1, u8_lt', h4]
        exact hK
      · rw [if_neg h4] at hK
        by_cases h5 : bn < an
        · rw [if_pos h5] at hK
          have h6 : ¬ (an = bn) := fun e => by subst e; exact h4 h5
          simp only [stc, u8, C_hourglassref6_Cmp, RUN_, U_hourglassref6_Cmp, FR_, Nat.reducePow, Int.reducePow, Nat.reduceAdd, Nat.reduceSub, Nat.reduceMul, Int.reduceToNat, Nat.reduceLeDiff, Nat.reduceEqDiff, Nat.reduceLT, Nat.reduceGT, Int.reduceGT, Int.reduceGE, Int.reduceLT, Int.reduceLE, Int.reduceEq, Int.reduceAdd, Int.reduceSub, Int.reduceNeg, reduceCtorEq, if_true, if_false, ite_true, ite_false, ne_eq, eq_self, OPK_, KEY_, K5_, h1, u8_lt', u8_eq', h4, h6]
          exact hK
        · rw [if_neg h5] at hK
          have h6 : an = bn := by rw [UInt8.lt_iff_toNat_lt] at h4 h5; exact UInt8.toNat_inj.1 (by omega)
          subst h6
          simp only [stc, u8, C_hourglassref6_Cmp, RUN_, U_hourglassref6_Cmp, FR_, Nat.reducePow, Int.reducePow, Nat.reduceAdd, Nat.reduceSub, Nat.reduceMul, Int.reduceToNat, Nat.reduceLeDiff, Nat.reduceEqDiff, Nat.reduceLT, Nat.reduceGT, Int.reduceGT, Int.reduceGE, Int.reduceLT, Int.reduceLE, Int.reduceEq, Int.reduceAdd, Int.reduceSub, Int.reduceNeg, reduceCtorEq, if_true, if_false, ite_true, ite_false, ne_eq, eq_self, OPK_, KEY_, K5_, h1, u8_lt', u8_eq', h4]
          exact hK
theorem ref6_Good_spec {C : CallW} (P : Program) (a : Stp) : ∀ S H (K : AV → St → Prop), K (.bool (goodS a)) ⟨S, H⟩ → runL C P C_hourglassref6_Good [.agg (stc a)] ⟨S, H⟩ K := by
  intro S H K hK
  unfold goodS at hK
  by_cases h1 : 0 ≤ a.t
  · by_cases h2 : a.t ≤ 36028797018963967
    · simp only [stc, C_hourglassref6_Good, RUN_, U_hourglassref6_Good, FR_, Nat.reducePow, Int.reducePow, Nat.reduceAdd, Nat.reduceSub, Nat.reduceMul, Int.reduceToNat, Nat.reduceLeDiff, Nat.reduceEqDiff, Nat.reduceLT, Nat.reduceGT, Int.reduceGT, Int.reduceGE, Int.reduceLT, Int.reduceLE, Int.reduceEq, Int.reduceAdd, Int.reduceSub, Int.reduceNeg, reduceCtorEq, if_true, if_false, ite_true, ite_false, ne_eq, eq_self, OPK_, KEY_, h1, h2]
      simpa [h1, h2] using hK
    · simp only [stc, C_hourglassref6_Good, RUN_, U_hourglassref6_Good, FR_, Nat.reducePow, Int.reducePow, Nat.reduceAdd, Nat.reduceSub, Nat.reduceMul, Int.reduceToNat, Nat.reduceLeDiff, Nat.reduceEqDiff, Nat.reduceLT, Nat.reduceGT, Int.reduceGT, Int.reduceGE, Int.reduceLT, Int.reduceLE, Int.reduceEq, Int.reduceAdd, Int.reduceSub, Int.reduceNeg, reduceCtorEq, if_true, if_false, ite_true, ite_false, ne_eq, eq_self, OPK_, KEY_, h1, h2]
      simpa [h1, h2] using hK
  · simp only [stc, C_hourglassref6_Good, RUN_, U_hourglassref6_Good, FR_, Nat.reducePow, Int.reducePow, Nat.reduceAdd, Nat.reduceSub, Nat.reduceMul, Int.reduceToNat, Nat.reduceLeDiff, Nat.reduceEqDiff, Nat.reduceLT, Nat.reduceGT, Int.reduceGT, Int.reduceGE, Int.reduceLT, Int.reduceLE, Int.reduceEq, Int.reduceAdd, Int.reduceSub, Int.reduceNeg, reduceCtorEq, if_true, if_false, ite_true, ite_false, ne_eq, eq_self, OPK_, KEY_, h1]
    simpa [h1] using hK
end Go.AM
/-! The equations of a run, bundled. -/
namespace Go.AM
open Go
set_option linter.unusedVariables false
theorem K4_ :
  (type_of% @Go.AM.lenL_row ∧ (type_of% @Go.AM.lenL_nilS ∧ type_of% @Go.AM.ixr_n)) :=
  ⟨@Go.AM.lenL_row, ⟨@Go.AM.lenL_nilS, @Go.AM.ixr_n⟩⟩
end Go.AM
/-! Transactions; boxes on the heap. -/
namespace Go.AM
open Go
set_option linter.unusedVariables false

structure Tx where
  id : Int
  snap : Stp
  stamp : Stp
  done : Bool
  reads : List Wr
  writes : List Wr

def txc (x : Tx) : List AV := [.s (.int .i64 x.id), .s (.int .i64 x.snap.t), u8 x.snap.n, .s (.int .i64 x.stamp.t), u8 x.stamp.n, .s (.bool x.done), .list .sh 18 (x.reads.map wA), .list .sh 18 (x.writes.map wA)]
def txA (x : Tx) : AV := .agg (txc x)
def lstT (l : List Tx) : AV := .list .sh 8 (l.map txA)
theorem ixl_t {l : List Tx} {i c : Nat} {k : IntKind} (h : i < l.length) (hc : c ≠ 0) : indexAddrL (.sl c) (.list .sh c (l.map txA)) (.s (.int k (i : Int))) = some (.rop (txc l[i])) := ixl_map h hc
theorem txc_len (x : Tx) : (txc x).length = 8 := rfl
theorem under_yield {n h : Nat} : AV.under n (.yield h) = true := rfl

def hcells : HObj → List AV
  | .cells cs => cs
  | _ => []
theorem storeL_heap {S : List (List AV)} {H l : List HObj} {j n : Nat} {vs : List AV} (hj : j < l.length) (h : (hcells (l.getD j .dead)).length = n) (hv : vs.length = n) (hn : 2 ≤ n) (hu : AV.under.go 0 vs = true) : storeL n (.ptr (.heap (H.length + j)) 0) (.agg vs) ⟨S, H ++ l⟩ = some ⟨S, H ++ l.set j (.cells vs)⟩ := by
  have e : l[j]? = some (l.getD j .dead) := by simp [List.getD, hj]
  cases hb : l.getD j .dead with
  | cells cs =>
    rw [hb] at h e
    have h : cs.length = n := h
    have hs : splice cs 0 vs = vs := by
      unfold splice
      split
      · simp at hv; omega
      · rw [List.take_zero, List.nil_append, Nat.zero_add, hv, List.drop_of_length_le (Nat.le_of_eq h), List.append_nil]
    have h' : cs.length = n := h
    simp only [storeL, AV.cells, AV.fit, hv, writeCells, boxOf_heap, app_get, e, cellsOf?, Option.bind_some, hs, setBox_heap, app_set, mayHold, hu, h', Nat.zero_add, Nat.le_refl, decide_true, Bool.and_self, if_true, true_and]
    rw [if_pos (by simp; omega)]
  | _ => rw [hb] at h; simp [hcells] at h; omega
theorem storeL_heap0 {S : List (List AV)} {H l : List HObj} {n : Nat} {vs : List AV} (hj : 0 < l.length) (h : (hcells (l.getD 0 .dead)).length = n) (hv : vs.length = n) (hn : 2 ≤ n) (hu : AV.under.go 0 vs = true) : storeL n (.ptr (.heap H.length) 0) (.agg vs) ⟨S, H ++ l⟩ = some ⟨S, H ++ l.set 0 (.cells vs)⟩ := storeL_heap (j := 0) hj h hv hn hu
theorem storeS_heap {S : List (List AV)} {H l : List HObj} {j off : Nat} {x : Sc} (hj : j < l.length) (h : off < (hcells (l.getD j .dead)).length) : storeL 1 (.ptr (.heap (H.length + j)) off) (.s x) ⟨S, H ++ l⟩ = some ⟨S, H ++ l.set j (.cells ((hcells (l.getD j .dead)).set off (.s x)))⟩ := by
  have e : l[j]? = some (l.getD j .dead) := by simp [List.getD, hj]
  cases hb : l.getD j .dead with
  | cells cs =>
    rw [hb] at h e
    have h1 : off + 1 ≤ cs.length := h
    simp only [storeL, AV.cells, AV.fit, List.length_cons, List.length_nil, writeCells, boxOf_heap, app_get, e, cellsOf?, Option.bind_some, splice, setBox_heap, app_set, mayHold, AV.under.go, AV.under, Nat.zero_add, h1, decide_true, Bool.and_self, if_true, true_and, and_self, hcells]
    rw [if_pos (by simp)]
  | _ => rw [hb] at h; simp [hcells] at h
theorem storeS_heap0 {S : List (List AV)} {H l : List HObj} {off : Nat} {x : Sc} (hj : 0 < l.length) (h : off < (hcells (l.getD 0 .dead)).length) : storeL 1 (.ptr (.heap H.length) off) (.s x) ⟨S, H ++ l⟩ = some ⟨S, H ++ l.set 0 (.cells ((hcells (l.getD 0 .dead)).set off (.s x)))⟩ := storeS_heap (j := 0) hj h
theorem readA_heap' {S : List (List AV)} {H l : List HObj} {j n off : Nat} (hj : j < l.length) (h : off + n ≤ (hcells (l.getD j .dead)).length) (hn : 0 < n) : readA ⟨S, H ++ l⟩ (.ptr (.heap (H.length + j)) off) n = some (.agg ((((hcells (l.getD j .dead)).drop off).take n).map AV.look)) := by
  have e : l[j]? = some (l.getD j .dead) := by simp [List.getD, hj]
  cases hb : l.getD j .dead with
  | cells cs =>
    rw [hb] at h e
    have h' : off + n ≤ cs.length := h
    simp only [readA, readCells, boxOf_heap, app_get, e, cellsOf?, Option.bind_some, if_pos h', Option.map_some, hcells]
  | _ => rw [hb] at h; simp [hcells] at h; omega
theorem readA_heap0 {S : List (List AV)} {H l : List HObj} {n off : Nat} (hj : 0 < l.length) (h : off + n ≤ (hcells (l.getD 0 .dead)).length) (hn : 0 < n) : readA ⟨S, H ++ l⟩ (.ptr (.heap H.length) off) n = some (.agg ((((hcells (l.getD 0 .dead)).drop off).take n).map AV.look)) := readA_heap' (j := 0) hj h hn
theorem look_fn {f : Fn} {a c : List AV} : (AV.fn f a c).look = .fn f a c := rfl
theorem wc_get16 (w : Wr) : (wc w)[16]? = some (.s (.str w.val)) := get_kc16 w.key [.s (.str w.val), .s (.bool w.gone)]
theorem wc_get17 (w : Wr) : (wc w)[17]? = some (.s (.bool w.gone)) := get_kc17 w.key [.s (.str w.val), .s (.bool w.gone)]
theorem fits_u8b {b : UInt8} : (LK.int .u8).fits (u8 b) = true := rfl
theorem wA_eq (w : Wr) : wA w = .agg (wc w) := rfl
end Go.AM
/-! The equations of a run, bundled. -/
namespace Go.AM
open Go
set_option linter.unusedVariables false
theorem K6_ :
  ((((type_of% @Go.AM.ixl_t ∧ type_of% @Go.AM.txc.eq_1) ∧ (type_of% @Go.AM.under_yield ∧ type_of% @Go.AM.hcells.eq_1)) ∧ ((type_of% @Go.AM.hcells.eq_2 ∧ type_of% @Go.AM.storeL_heap) ∧ (type_of% @Go.AM.storeL_heap0 ∧ type_of% @Go.AM.storeS_heap))) ∧ (((type_of% @Go.AM.storeS_heap0 ∧ type_of% @Go.AM.readA_heap') ∧ (type_of% @Go.AM.readA_heap0 ∧ type_of% @Go.AM.wA_eq)) ∧ ((type_of% @Go.AM.wc_get16 ∧ type_of% @Go.AM.wc_get17) ∧ (type_of% @Go.AM.fillL.eq_1 ∧ (type_of% @Go.AM.fillL.eq_2 ∧ type_of% @Go.AM.fits_u8b))))) :=
  ⟨⟨⟨⟨@Go.AM.ixl_t, @Go.AM.txc.eq_1⟩, ⟨@Go.AM.under_yield, @Go.AM.hcells.eq_1⟩⟩, ⟨⟨@Go.AM.hcells.eq_2, @Go.AM.storeL_heap⟩, ⟨@Go.AM.storeL_heap0, @Go.AM.storeS_heap⟩⟩⟩, ⟨⟨⟨@Go.AM.storeS_heap0, @Go.AM.readA_heap'⟩, ⟨@Go.AM.readA_heap0, @Go.AM.wA_eq⟩⟩, ⟨⟨@Go.AM.wc_get16, @Go.AM.wc_get17⟩, ⟨@Go.AM.fillL.eq_1, ⟨@Go.AM.fillL.eq_2, @Go.AM.fits_u8b⟩⟩⟩⟩⟩
end Go.AM
/-! Slices cut and joined. -/
namespace Go.AM
open Go
set_option linter.unusedVariables false

theorem slc_hi {c n : Nat} {es : List AV} {k : IntKind} (h : n ≤ es.length) : sliceL (.sl c) (.list .sh c es) none (some (.s (.int k (n : Int)))) none = some (.list .sh c (es.take n)) := by
  have h0 : (0 : Int) ≤ n := by omega
  simp only [sliceL, bound, h0, if_true, Int.toNat_natCast, reduceCtorEq, if_false, Nat.zero_le, h, and_self, List.drop_zero, false_and]
theorem slc_lo {c n : Nat} {es : List AV} {k : IntKind} (h : n ≤ es.length) : sliceL (.sl c) (.list .sh c es) (some (.s (.int k (n : Int)))) none none = some (.list .sh c (es.drop n)) := by
  have h0 : (0 : Int) ≤ n := by omega
  simp only [sliceL, bound, h0, if_true, Int.toNat_natCast, reduceCtorEq, if_false, h, Nat.le_refl, and_self, false_and, List.take_length]
theorem slc_both {c m n : Nat} {es : List AV} {k k' : IntKind} (hm : m ≤ n) (h : n ≤ es.length) : sliceL (.sl c) (.list .sh c es) (some (.s (.int k (m : Int)))) (some (.s (.int k' (n : Int)))) none = some (.list .sh c ((es.take n).drop m)) := by
  have h0 : (0 : Int) ≤ n := by omega
  have h1 : (0 : Int) ≤ m := by omega
  simp only [sliceL, bound, h0, h1, if_true, Int.toNat_natCast, reduceCtorEq, if_false, hm, h, and_self, false_and]
/-- What is one's own alone, or empty. -/
def Own1 (fl : Fl) (es : List AV) : Prop := fl = .uniq ∨ fl = .full ∧ es = []
theorem Own1.full0 : Own1 .full [] := .inr ⟨rfl, rfl⟩
theorem app_join {e : ET} {fl fl2 : Fl} {es items : List AV} (h : Own1 fl es) (hu : AV.under.go 0 items = true) (hb : 2 * (es.length + items.length) * e.bytes ≤ 2 ^ 48) :
    ∃ fl', Own1 fl' (es ++ items) ∧ ∀ σ : St, appendL e false (.list fl e.c es) (.list fl2 e.c items) σ = some (.list fl' e.c (es ++ items), σ) := by
  have he : ∀ σ, elemsL e (.list fl2 e.c items) σ = some items := fun σ => by simp [elemsL]
  have hb1 : items.length * e.bytes ≤ 2 ^ 48 := Nat.le_trans (Nat.mul_le_mul_right _ (by omega)) hb
  cases items with
  | nil => exact ⟨fl, by simpa using h, fun σ => by simp [appendL, srcL, AV.isSlice, he, AV.under.go, appItems]⟩
  | cons x xs =>
    rcases h with rfl | ⟨rfl, rfl⟩
    · exact ⟨.uniq, .inl rfl, fun σ => by simp only [appendL, srcL, AV.isSlice, he, hu, appItems, Option.bind_some, if_true, ne_eq, not_true_eq_false, if_false, List.isEmpty_cons, Bool.false_eq_true, hb]⟩
    · exact ⟨.uniq, .inl rfl, fun σ => by simp only [appendL, srcL, AV.isSlice, he, hu, appItems, Option.bind_some, if_true, ne_eq, not_true_eq_false, if_false, List.isEmpty_cons, Bool.false_eq_true, List.isEmpty_nil, hb1, List.nil_append]⟩
theorem Own1.wk {fl : Fl} {c : Nat} {es : List AV} (h : Own1 fl es) {as bs : List AV} (t : WkF as bs) : WkF (.list fl c es :: as) (.list .sh c es :: bs) := by
  rcases h with rfl | ⟨rfl, rfl⟩
  · exact .uniq t
  · exact .full t

/-- A list grown from nil. -/
def slG (c : Nat) (es : List AV) : AV := if es = [] then .s .nilS else .list .uniq c es
theorem slG_nil {c : Nat} : slG c [] = .s .nilS := rfl
theorem slG_under {n c : Nat} {es : List AV} : AV.under n (slG c es) = true := by unfold slG; split <;> rfl
theorem slG_cases {c : Nat} {es : List AV} {as bs : List AV} (hc : 0 < c) (t : WkF as bs) : WkF (slG c es :: as) (.list .sh c es :: bs) := by
  unfold slG
  split
  · rename_i h; subst h; exact .nilS hc t
  · exact .uniq t
theorem app_slG {e : ET} {es : List AV} {a : AV} {σ : St} (hu : AV.under 0 a = true) (hb : 2 * (es.length + 1) * e.bytes ≤ 2 ^ 48) : appendL e false (slG e.c es) (.list .full e.c [a]) σ = some (slG e.c (es ++ [a]), σ) := by
  have he : elemsL e (.list .full e.c [a]) σ = some [a] := by simp [elemsL]
  have h1 : 1 * e.bytes ≤ 2 ^ 48 := Nat.le_trans (Nat.mul_le_mul_right _ (by omega)) hb
  have hg : AV.under.go 0 [a] = true := by simp [AV.under.go, hu]
  unfold appendL
  simp only [srcL, AV.isSlice, if_true, he, Option.bind_some, hg]
  unfold slG
  by_cases h : es = []
  · subst h
    simp [appItems] at h1 ⊢
    omega
  · rw [if_neg h]
    simp only [appItems, ne_eq, not_true_eq_false, if_false, List.isEmpty_cons, Bool.false_eq_true, List.length_cons, List.length_nil, Nat.zero_add, hb, if_true]
    simp
theorem drop_kc17 {k : Key} {a : AV} {r : List AV} : (bs k.b ++ a :: r).drop 17 = r := by rw [show bs k.b ++ a :: r = (bs k.b ++ [a]) ++ r by simp, List.drop_left' (by simp [kc_length])]
theorem take_kc17 {k : Key} {a : AV} {r : List AV} : (bs k.b ++ a :: r).take 17 = bs k.b ++ [a] := by rw [show bs k.b ++ a :: r = (bs k.b ++ [a]) ++ r by simp, List.take_left' (by simp [kc_length])]
theorem drop_kc18 {k : Key} {a b : AV} {r : List AV} : (bs k.b ++ a :: b :: r).drop 18 = r := by rw [show bs k.b ++ a :: b :: r = (bs k.b ++ [a, b]) ++ r by simp, List.drop_left' (by simp [kc_length])]
theorem take_kc18 {k : Key} {a b : AV} {r : List AV} : (bs k.b ++ a :: b :: r).take 18 = bs k.b ++ [a, b] := by rw [show bs k.b ++ a :: b :: r = (bs k.b ++ [a, b]) ++ r by simp, List.take_left' (by simp [kc_length])]
end Go.AM
/-! The equations of a run, bundled. -/
namespace Go.AM
open Go
set_option linter.unusedVariables false
theorem K7_ :
  (((type_of% @Go.AM.slc_hi ∧ type_of% @Go.AM.slc_lo) ∧ (type_of% @Go.AM.slc_both ∧ type_of% @Go.AM.slG_nil)) ∧ ((type_of% @Go.AM.slG_under ∧ type_of% @Go.AM.drop_kc17) ∧ (type_of% @Go.AM.take_kc17 ∧ (type_of% @Go.AM.drop_kc18 ∧ type_of% @Go.AM.take_kc18)))) :=
  ⟨⟨⟨@Go.AM.slc_hi, @Go.AM.slc_lo⟩, ⟨@Go.AM.slc_both, @Go.AM.slG_nil⟩⟩, ⟨⟨@Go.AM.slG_under, @Go.AM.drop_kc17⟩, ⟨@Go.AM.take_kc17, ⟨@Go.AM.drop_kc18, @Go.AM.take_kc18⟩⟩⟩⟩
end Go.AM
/-! hist: a transaction's last write of a key. -/
namespace Go.AM
open Go
set_option maxRecDepth 20000
set_option linter.unusedSimpArgs false
set_option linter.unusedVariables false

def BackS (C : CallW) (f g : FuncId) : Prop := ∀ (l : List Wr) S H (K : AV → St → Prop), K (.fn (.func g) [] [.ptr (.heap H.length) 0]) ⟨S, H ++ [.cells [lstW l]]⟩ → C (.fn f) [lstW l] ⟨S, H⟩ K
theorem Backward_spec {C : CallW} (P : Program) {c : Nat → FuncId} : ∀ (l : List Wr) S H (K : AV → St → Prop), K (.fn (.func (c 0)) [] [.ptr (.heap H.length) 0]) ⟨S, H ++ [.cells [lstW l]]⟩ → runL C P (C_slices_Backward_Write c) [lstW l] ⟨S, H⟩ K := by
  intro l S H K hK
  simp only [lstW, C_slices_Backward_Write, RUN_, FR_, Nat.reducePow, Int.reducePow, Nat.reduceAdd, Nat.reduceSub, Nat.reduceMul, Int.reduceToNat, Nat.reduceLeDiff, Nat.reduceEqDiff, Nat.reduceLT, Nat.reduceGT, Int.reduceGT, Int.reduceGE, Int.reduceLT, Int.reduceLE, Int.reduceEq, Int.reduceAdd, Int.reduceSub, Int.reduceNeg, reduceCtorEq, if_true, if_false, ite_true, ite_false, ne_eq, eq_self, OPK_, KEY_, WR_, CHK_, Nat.reduceBEq, K4_, K5_, K6_, K7_]
  exact hK

/-- A walk through a list from its end, down to a place where it is left. -/
def Back1S (C : CallW) (g : FuncId) : Prop := ∀ (l : List Wr) (h bx m : Nat) S H Hf (K : AV → St → Prop), l.length ≤ 9223372036854775807 → H[bx]? = some (.cells [lstW l]) → m ≤ l.length →
  (∀ i, m ≤ i → (hi : i < l.length) → ∀ S' (K' : AV → St → Prop), K' (.bool true) ⟨S', H⟩ → C (.yield h) [.i i, .agg (wc l[i])] ⟨S', H⟩ K') →
  (m = 0 → Hf = H) →
  (0 < m → (hm : m - 1 < l.length) → ∀ S' (K' : AV → St → Prop), K' (.bool false) ⟨S', Hf⟩ → C (.yield h) [.i ((m - 1 : Nat) : Int), .agg (wc l[m - 1])] ⟨S', H⟩ K') →
  K (.tup []) ⟨S, Hf⟩ → C (.fn g) [.yield h, .ptr (.heap bx) 0] ⟨S, H⟩ K
theorem wrap_pred {i : Nat} (h : i ≤ 9223372036854775807) : IntKind.i64.wrap ((i : Int) - 1) = (i : Int) - 1 := wrap_i64 (by omega) (by omega)
set_option maxHeartbeats 2000000 in
theorem Backward1_spec {C : CallW} (hC : LeC C C) (P : Program) : ∀ (l : List Wr) (h bx m : Nat) S H Hf (K : AV → St → Prop), l.length ≤ 9223372036854775807 → H[bx]? = some (.cells [lstW l]) → m ≤ l.length →
  (∀ i, m ≤ i → (hi : i < l.length) → ∀ S' (K' : AV → St → Prop), K' (.bool true) ⟨S', H⟩ → C (.yield h) [.i i, .agg (wc l[i])] ⟨S', H⟩ K') →
  (m = 0 → Hf = H) →
  (0 < m → (hm : m - 1 < l.length) → ∀ S' (K' : AV → St → Prop), K' (.bool false) ⟨S', Hf⟩ → C (.yield h) [.i ((m - 1 : Nat) : Int), .agg (wc l[m - 1])] ⟨S', H⟩ K') →
  K (.tup []) ⟨S, Hf⟩ → runL C P C_slices_Backward_Write_1 [.yield h, .ptr (.heap bx) 0] ⟨S, H⟩ K := by
  intro l h bx m S H Hf K hl hb hm hpass hend hstop hK
  unfold lstW at hb
  have hwl := wrap_pred hl
  simp only [C_slices_Backward_Write_1, RUN_, U_slices_Backward_Write_1, FR_, Nat.reducePow, Int.reducePow, Nat.reduceAdd, Nat.reduceSub, Nat.reduceMul, Int.reduceToNat, Nat.reduceLeDiff, Nat.reduceEqDiff, Nat.reduceLT, Nat.reduceGT, Int.reduceGT, Int.reduceGE, Int.reduceLT, Int.reduceLE, Int.reduceEq, Int.reduceAdd, Int.reduceSub, Int.reduceNeg, reduceCtorEq, if_true, if_false, ite_true, ite_false, ne_eq, eq_self, OPK_, KEY_, WR_, CHK_, Nat.reduceBEq, K4_, K5_, K6_, K7_, hb, hwl]
  refine loop_rule hC (α := Nat) (fun a => a) (fun a => [.yield h, .ptr (.heap bx) 0, .undef, .s (.int .i64 ((a : Int) - 1)), .undef, .undef, .undef, .undef, .undef, .undef, .undef, .undef, .undef, .undef, .undef, .undef, .undef, .undef, .undef]) (fun _ => S) (fun _ => H) (fun a => m ≤ a ∧ a ≤ l.length) l.length ⟨hm, Nat.le_refl _⟩ rfl (by simp) rfl (fun a _ => by simp [AV.under, AV.under.go]) ?_
  rintro a ⟨ha, hal⟩ ih
  by_cases h0 : a = 0
  · subst h0
    have hn : ¬ ((0 : Int) ≤ ((0 : Nat) : Int) - 1) := by omega
    simp only [RUN_, U_slices_Backward_Write_1, FR_, Nat.reducePow, Int.reducePow, Nat.reduceAdd, Nat.reduceSub, Nat.reduceMul, Int.reduceToNat, Nat.reduceLeDiff, Nat.reduceEqDiff, Nat.reduceLT, Nat.reduceGT, Int.reduceGT, Int.reduceGE, Int.reduceLT, Int.reduceLE, Int.reduceEq, Int.reduceAdd, Int.reduceSub, Int.reduceNeg, reduceCtorEq, if_true, if_false, ite_true, ite_false, ne_eq, eq_self, OPK_, KEY_, WR_, CHK_, Nat.reduceBEq, K4_, K5_, K6_, K7_, hn]
    rw [hend (by omega)] at hK
    exact hK
  · have hp : ((0 : Int) ≤ (a : Int) - 1) := by omega
    have e : ((a : Int) - 1) = ((a - 1 : Nat) : Int) := by omega
    have hlt : a - 1 < l.length := by omega
    have hw := wrap_pred (i := a - 1) (by omega)
    rw [e] at hp
    simp only [RUN_, U_slices_Backward_Write_1, FR_, Nat.reducePow, Int.reducePow, Nat.reduceAdd, Nat.reduceSub, Nat.reduceMul, Int.reduceToNat, Nat.reduceLeDiff, Nat.reduceEqDiff, Nat.reduceLT, Nat.reduceGT, Int.reduceGT, Int.reduceGE, Int.reduceLT, Int.reduceLE, Int.reduceEq, Int.reduceAdd, Int.reduceSub, Int.reduceNeg, reduceCtorEq, if_true, if_false, ite_true, ite_false, ne_eq, eq_self, OPK_, KEY_, WR_, CHK_, Nat.reduceBEq, K4_, K5_, K6_, K7_, hb, hp, e, hlt]
    by_cases hma : m ≤ a - 1
    · refine hpass (a - 1) hma hlt _ _ ?_
      simp only [RUN_, U_slices_Backward_Write_1, FR_, Nat.reducePow, Int.reducePow, Nat.reduceAdd, Nat.reduceSub, Nat.reduceMul, Int.reduceToNat, Nat.reduceLeDiff, Nat.reduceEqDiff, Nat.reduceLT, Nat.reduceGT, Int.reduceGT, Int.reduceGE, Int.reduceLT, Int.reduceLE, Int.reduceEq, Int.reduceAdd, Int.reduceSub, Int.reduceNeg, reduceCtorEq, if_true, if_false, ite_true, ite_false, ne_eq, eq_self, OPK_, KEY_, WR_, CHK_, Nat.reduceBEq, K4_, K5_, K6_, K7_, hw]
      exact ih (a - 1) _ _ _ (by omega) ⟨hma, by omega⟩ rfl (by simp) rfl
    · have : m = a := by omega
      subst this
      refine hstop (by omega) hlt _ _ ?_
      simp only [RUN_, U_slices_Backward_Write_1, FR_, Nat.reducePow, Int.reducePow, Nat.reduceAdd, Nat.reduceSub, Nat.reduceMul, Int.reduceToNat, Nat.reduceLeDiff, Nat.reduceEqDiff, Nat.reduceLT, Nat.reduceGT, Int.reduceGT, Int.reduceGE, Int.reduceLT, Int.reduceLE, Int.reduceEq, Int.reduceAdd, Int.reduceSub, Int.reduceNeg, reduceCtorEq, if_true, if_false, ite_true, ite_false, ne_eq, eq_self, OPK_, KEY_, WR_, CHK_, Nat.reduceBEq, K4_, K5_, K6_, K7_]
      exact hK
end Go.AM
namespace Go.AM
open Go
set_option maxRecDepth 20000
set_option linter.unusedSimpArgs false
set_option linter.unusedVariables false

def zW : Wr := ⟨key0, [], false⟩
/-- The last write of a key. -/
def lastR (k : Key) : List Wr → Wr × Bool
  | [] => (zW, false)
  | w :: ws => if (lastR k ws).2 then lastR k ws else if w.key = k then (w, true) else (zW, false)
theorem lastR_at (k : Key) : ∀ (ws : List Wr), ∃ m, m ≤ ws.length ∧ (∀ i, m ≤ i → (hi : i < ws.length) → ws[i].key ≠ k) ∧ ((m = 0 ∧ lastR k ws = (zW, false)) ∨ ∃ hm : m - 1 < ws.length, 0 < m ∧ (ws[m - 1]).key = k ∧ lastR k ws = (ws[m - 1], true))
  | [] => ⟨0, Nat.le_refl _, fun i _ hi => by simp at hi, .inl ⟨rfl, rfl⟩⟩
  | w :: ws => by
    obtain ⟨m, h1, h2, h3⟩ := lastR_at k ws
    rcases h3 with ⟨rfl, h3⟩ | ⟨hm, h0, h3, h4⟩
    · by_cases hk : w.key = k
      · refine ⟨1, by simp, fun i hi hl => ?_, .inr ⟨by simp, by omega, by simpa using hk, ?_⟩⟩
        · cases i with
          | zero => omega
          | succ i => simpa using h2 i (by omega) (by simpa using hl)
        · simp [lastR, h3, hk]
      · refine ⟨0, by simp, fun i _ hl => ?_, .inl ⟨rfl, ?_⟩⟩
        · cases i with
          | zero => simpa using hk
          | succ i => simpa using h2 i (by omega) (by simpa using hl)
        · simp [lastR, h3, hk]
    · refine ⟨m + 1, by simpa using h1, fun i hi hl => ?_, .inr ⟨by simp; omega, by omega, ?_, ?_⟩⟩
      · cases i with
        | zero => omega
        | succ i => simpa using h2 i (by omega) (by simpa using hl)
      · obtain ⟨j, rfl⟩ : ∃ j, m = j + 1 := ⟨m - 1, by omega⟩
        simpa using h3
      · obtain ⟨j, rfl⟩ : ∃ j, m = j + 1 := ⟨m - 1, by omega⟩
        simp only [lastR, h4, if_true]
        simp

def LastS (C : CallW) (f : FuncId) : Prop := ∀ (x : Tx) (k : Key) S H (K : AV → St → Prop), x.writes.length ≤ 9223372036854775807 → (∀ G, K (.tup [.agg (wc (lastR k x.writes).1), .bool (lastR k x.writes).2]) ⟨S, H ++ G⟩) → C (.fn f) [.agg (txc x), .agg (bs k.b)] ⟨S, H⟩ K

set_option maxHeartbeats 4000000 in
theorem last_spec {C : CallW} (hC : LeC C C) (P : Program) {c : Nat → FuncId} {as1 bd1 : Code} {g : FuncId} (hb : BackS C (c 0) g) (h1 : Back1S C g) (hB : hasBody P g = true) (hR : RoundOK C P (c 1) as1 bd1 (C_hist_Txn_last_a0).code (C_hist_Txn_last_b0).code) :
    ∀ (x : Tx) (k : Key) S H (K : AV → St → Prop), x.writes.length ≤ 9223372036854775807 → (∀ G, K (.tup [.agg (wc (lastR k x.writes).1), .bool (lastR k x.writes).2]) ⟨S, H ++ G⟩) → runL C P (C_hist_Txn_last c as1 bd1) [.agg (txc x), .agg (bs k.b)] ⟨S, H⟩ K := by
  intro x k S H K hl hK
  simp only [C_hist_Txn_last, RUN_, U_hist_Txn_last, U_hist_Txn_last_b0, FR_, Nat.reducePow, Int.reducePow, Nat.reduceAdd, Nat.reduceSub, Nat.reduceMul, Int.reduceToNat, Nat.reduceLeDiff, Nat.reduceEqDiff, Nat.reduceLT, Nat.reduceGT, Int.reduceGT, Int.reduceGE, Int.reduceLT, Int.reduceLE, Int.reduceEq, Int.reduceAdd, Int.reduceSub, Int.reduceNeg, reduceCtorEq, if_true, if_false, ite_true, ite_false, ne_eq, eq_self, OPK_, KEY_, WR_, CHK_, Nat.reduceBEq, K4_, K5_, K6_, K7_]
  have hb' := hb x.writes
  unfold lstW at hb'
  refine hb' _ _ _ ?_
  simp only [RUN_, U_hist_Txn_last, U_hist_Txn_last_b0, FR_, Nat.reducePow, Int.reducePow, Nat.reduceAdd, Nat.reduceSub, Nat.reduceMul, Int.reduceToNat, Nat.reduceLeDiff, Nat.reduceEqDiff, Nat.reduceLT, Nat.reduceGT, Int.reduceGT, Int.reduceGE, Int.reduceLT, Int.reduceLE, Int.reduceEq, Int.reduceAdd, Int.reduceSub, Int.reduceNeg, reduceCtorEq, if_true, if_false, ite_true, ite_false, ne_eq, eq_self, OPK_, KEY_, WR_, CHK_, Nat.reduceBEq, K4_, K5_, K6_, K7_, hB]
  obtain ⟨m, hm, hpass, hfin⟩ := lastR_at k x.writes
  rcases hfin with ⟨rfl, hfin⟩ | ⟨hlt, h0, hkey, hfin⟩
  · refine h1 x.writes _ _ 0 _ _ _ _ hl ?_ hm ?_ (fun _ => rfl) (fun h => absurd h (by omega)) ?_
    · rw [app_get]; rfl
    · intro i hmi hi S' K' hK'
      have hne : ¬ ((x.writes[i]).key = k) := hpass i hmi hi
      refine hR _ _ _ _ _ _ _ (by rw [app_get]; rfl) rfl ?_
      simp only [C_hist_Txn_last_a0, C_hist_Txn_last_b0, RUN_, U_hist_Txn_last, U_hist_Txn_last_b0, FR_, Nat.reducePow, Int.reducePow, Nat.reduceAdd, Nat.reduceSub, Nat.reduceMul, Int.reduceToNat, Nat.reduceLeDiff, Nat.reduceEqDiff, Nat.reduceLT, Nat.reduceGT, Int.reduceGT, Int.reduceGE, Int.reduceLT, Int.reduceLE, Int.reduceEq, Int.reduceAdd, Int.reduceSub, Int.reduceNeg, reduceCtorEq, if_true, if_false, ite_true, ite_false, ne_eq, eq_self, OPK_, KEY_, WR_, CHK_, Nat.reduceBEq, K4_, K5_, K6_, K7_, hne]
      exact hK'
    · rw [hfin] at hK
      simp only [RUN_, U_hist_Txn_last, U_hist_Txn_last_b0, FR_, Nat.reducePow, Int.reducePow, Nat.reduceAdd, Nat.reduceSub, Nat.reduceMul, Int.reduceToNat, Nat.reduceLeDiff, Nat.reduceEqDiff, Nat.reduceLT, Nat.reduceGT, Int.reduceGT, Int.reduceGE, Int.reduceLT, Int.reduceLE, Int.reduceEq, Int.reduceAdd, Int.reduceSub, Int.reduceNeg, reduceCtorEq, if_true, if_false, ite_true, ite_false, ne_eq, eq_self, OPK_, KEY_, WR_, CHK_, Nat.reduceBEq, K4_, K5_, K6_, K7_]
      exact hK _
  · refine h1 x.writes _ _ m _ _ (H ++ [.cells (bs k.b), .cells (wc x.writes[m - 1]), .cells [.s (.bool true)], .cells [.list .sh 18 (x.writes.map wA)], .loop ⟨c 1, [.agg [AV.s (Sc.int IntKind.i64 x.id), AV.s (Sc.int IntKind.i64 x.snap.t), u8 x.snap.n, AV.s (Sc.int IntKind.i64 x.stamp.t), u8 x.stamp.n, AV.s (Sc.bool x.done), AV.list Fl.sh 18 (List.map wA x.reads), AV.list Fl.sh 18 (List.map wA x.writes)], .agg (bs k.b), .undef, .ptr (.heap H.length) 0, .ptr (.heap (H.length + 1)) 0, .ptr (.heap (H.length + 2)) 0, .undef, .undef, .undef, .list .sh 18 (x.writes.map wA), .fn (.func g) [] [.ptr (.heap (H.length + 3)) 0], .undef, .undef, .undef, .undef, .undef, .undef, .undef, .undef], [11, 12], as1, bd1, false, some .ret⟩]) _ hl ?_ hm ?_ (fun h => absurd h (by omega)) ?_ ?_
    · rw [app_get]; rfl
    · intro i hmi hi S' K' hK'
      have hne : ¬ ((x.writes[i]).key = k) := hpass i hmi hi
      refine hR _ _ _ _ _ _ _ (by rw [app_get]; rfl) rfl ?_
      simp only [C_hist_Txn_last_a0, C_hist_Txn_last_b0, RUN_, U_hist_Txn_last, U_hist_Txn_last_b0, FR_, Nat.reducePow, Int.reducePow, Nat.reduceAdd, Nat.reduceSub, Nat.reduceMul, Int.reduceToNat, Nat.reduceLeDiff, Nat.reduceEqDiff, Nat.reduceLT, Nat.reduceGT, Int.reduceGT, Int.reduceGE, Int.reduceLT, Int.reduceLE, Int.reduceEq, Int.reduceAdd, Int.reduceSub, Int.reduceNeg, reduceCtorEq, if_true, if_false, ite_true, ite_false, ne_eq, eq_self, OPK_, KEY_, WR_, CHK_, Nat.reduceBEq, K4_, K5_, K6_, K7_, hne]
      exact hK'
    · intro _ hi S' K' hK'
      have hkey' : ((x.writes[m - 1]).key = k) = True := eq_true hkey
      refine hR _ _ _ _ _ _ _ (by rw [app_get]; rfl) rfl ?_
      simp only [C_hist_Txn_last_a0, C_hist_Txn_last_b0, RUN_, U_hist_Txn_last, U_hist_Txn_last_b0, FR_, Nat.reducePow, Int.reducePow, Nat.reduceAdd, Nat.reduceSub, Nat.reduceMul, Int.reduceToNat, Nat.reduceLeDiff, Nat.reduceEqDiff, Nat.reduceLT, Nat.reduceGT, Int.reduceGT, Int.reduceGE, Int.reduceLT, Int.reduceLE, Int.reduceEq, Int.reduceAdd, Int.reduceSub, Int.reduceNeg, reduceCtorEq, if_true, if_false, ite_true, ite_false, ne_eq, eq_self, OPK_, KEY_, WR_, CHK_, Nat.reduceBEq, K4_, K5_, K6_, K7_, hkey']
      exact hK'
    · rw [hfin] at hK
      simp only [RUN_, U_hist_Txn_last, U_hist_Txn_last_b0, FR_, Nat.reducePow, Int.reducePow, Nat.reduceAdd, Nat.reduceSub, Nat.reduceMul, Int.reduceToNat, Nat.reduceLeDiff, Nat.reduceEqDiff, Nat.reduceLT, Nat.reduceGT, Int.reduceGT, Int.reduceGE, Int.reduceLT, Int.reduceLE, Int.reduceEq, Int.reduceAdd, Int.reduceSub, Int.reduceNeg, reduceCtorEq, if_true, if_false, ite_true, ite_false, ne_eq, eq_self, OPK_, KEY_, WR_, CHK_, Nat.reduceBEq, K4_, K5_, K6_, K7_]
      exact hK _
end Go.AM
namespace Go.AM
open Go
set_option maxRecDepth 20000
set_option linter.unusedSimpArgs false
set_option linter.unusedVariables false

def wroteT (x : Tx) : Bool := x.done && decide (0 < x.writes.length)
def beforeT (a b : Tx) : Bool := decide (cmpS a.stamp b.snap ≤ 0)
def sharesT (a b : Tx) : Bool := a.writes.any fun w => (lastR w.key b.writes).2
def CmpSS (C : CallW) (f : FuncId) : Prop := ∀ (a b : Stp), FnS C f [.agg (stc a), .agg (stc b)] (.i (cmpS a b))

theorem wrote_spec {C : CallW} (P : Program) (x : Tx) : ∀ S H (K : AV → St → Prop), K (.bool (wroteT x)) ⟨S, H⟩ → runL C P (C_hist_Txn_wrote) [.agg (txc x)] ⟨S, H⟩ K := by
  intro S H K hK
  unfold wroteT at hK
  cases hd : x.done with
  | true =>
    by_cases h : 0 < x.writes.length
    · have h' : (0 : Int) < (x.writes.length : Int) := by omega
      simp only [C_hist_Txn_wrote, RUN_, U_hist_Txn_wrote, FR_, Nat.reducePow, Int.reducePow, Nat.reduceAdd, Nat.reduceSub, Nat.reduceMul, Int.reduceToNat, Nat.reduceLeDiff, Nat.reduceEqDiff, Nat.reduceLT, Nat.reduceGT, Int.reduceGT, Int.reduceGE, Int.reduceLT, Int.reduceLE, Int.reduceEq, Int.reduceAdd, Int.reduceSub, Int.reduceNeg, reduceCtorEq, if_true, if_false, ite_true, ite_false, ne_eq, eq_self, OPK_, KEY_, WR_, CHK_, Nat.reduceBEq, K4_, K5_, K6_, K7_, hd, h']
      simpa [hd, h] using hK
    · have h' : ¬ ((0 : Int) < (x.writes.length : Int)) := by omega
      simp only [C_hist_Txn_wrote, RUN_, U_hist_Txn_wrote, FR_, Nat.reducePow, Int.reducePow, Nat.reduceAdd, Nat.reduceSub, Nat.reduceMul, Int.reduceToNat, Nat.reduceLeDiff, Nat.reduceEqDiff, Nat.reduceLT, Nat.reduceGT, Int.reduceGT, Int.reduceGE, Int.reduceLT, Int.reduceLE, Int.reduceEq, Int.reduceAdd, Int.reduceSub, Int.reduceNeg, reduceCtorEq, if_true, if_false, ite_true, ite_false, ne_eq, eq_self, OPK_, KEY_, WR_, CHK_, Nat.reduceBEq, K4_, K5_, K6_, K7_, hd, h']
      simpa [hd, h] using hK
  | false =>
    simp only [C_hist_Txn_wrote, RUN_, U_hist_Txn_wrote, FR_, Nat.reducePow, Int.reducePow, Nat.reduceAdd, Nat.reduceSub, Nat.reduceMul, Int.reduceToNat, Nat.reduceLeDiff, Nat.reduceEqDiff, Nat.reduceLT, Nat.reduceGT, Int.reduceGT, Int.reduceGE, Int.reduceLT, Int.reduceLE, Int.reduceEq, Int.reduceAdd, Int.reduceSub, Int.reduceNeg, reduceCtorEq, if_true, if_false, ite_true, ite_false, ne_eq, eq_self, OPK_, KEY_, WR_, CHK_, Nat.reduceBEq, K4_, K5_, K6_, K7_, hd]
    simpa [hd] using hK

theorem before_spec {C : CallW} (P : Program) {c : Nat → FuncId} (h0 : CmpSS C (c 0)) (a b : Tx) : ∀ S H (K : AV → St → Prop), K (.bool (beforeT a b)) ⟨S, H⟩ → runL C P (C_hist_before c) [.agg (txc a), .agg (txc b)] ⟨S, H⟩ K := by
  intro S H K hK
  have h0' : ∀ (a b : Stp) S H (K : AV → St → Prop), K (.i (cmpS a b)) ⟨S, H⟩ → C (.fn (c 0)) [.agg [.s (.int .i64 a.t), u8 a.n], .agg [.s (.int .i64 b.t), u8 b.n]] ⟨S, H⟩ K := h0
  simp only [C_hist_before, RUN_, U_hist_before, FR_, Nat.reducePow, Int.reducePow, Nat.reduceAdd, Nat.reduceSub, Nat.reduceMul, Int.reduceToNat, Nat.reduceLeDiff, Nat.reduceEqDiff, Nat.reduceLT, Nat.reduceGT, Int.reduceGT, Int.reduceGE, Int.reduceLT, Int.reduceLE, Int.reduceEq, Int.reduceAdd, Int.reduceSub, Int.reduceNeg, reduceCtorEq, if_true, if_false, ite_true, ite_false, ne_eq, eq_self, OPK_, KEY_, WR_, CHK_, Nat.reduceBEq, K4_, K5_, K6_, K7_]
  refine h0' a.stamp b.snap _ _ _ ?_
  simp only [RUN_, U_hist_before, FR_, Nat.reducePow, Int.reducePow, Nat.reduceAdd, Nat.reduceSub, Nat.reduceMul, Int.reduceToNat, Nat.reduceLeDiff, Nat.reduceEqDiff, Nat.reduceLT, Nat.reduceGT, Int.reduceGT, Int.reduceGE, Int.reduceLT, Int.reduceLE, Int.reduceEq, Int.reduceAdd, Int.reduceSub, Int.reduceNeg, reduceCtorEq, if_true, if_false, ite_true, ite_false, ne_eq, eq_self, OPK_, KEY_, WR_, CHK_, Nat.reduceBEq, K4_, K5_, K6_, K7_]
  exact hK

/-- A function value asked of each write of a list, whatever it leaves on the heap. -/
def AskS (C : CallW) (g : FuncId) (cp : AV) (p : Wr → Bool) (S : List (List AV)) (H : List HObj) : Prop :=
  ∀ (w : Wr) (G : List HObj) (K : AV → St → Prop), (∀ G', K (.bool (p w)) ⟨S, H ++ G'⟩) → C (.fn g) [.agg (wc w), cp] ⟨S, H ++ G⟩ K
def idxP (p : Wr → Bool) : List Wr → Int → Int
  | [], _ => -1
  | w :: l, i => if p w then i else idxP p l (i + 1)
theorem idxP_any (p : Wr → Bool) : ∀ (l : List Wr) (i : Int), 0 ≤ i → decide (0 ≤ idxP p l i) = l.any p
  | [], i, _ => rfl
  | w :: l, i, h => by
    simp only [idxP, List.any_cons]
    by_cases hp : p w = true
    · simp [hp, h]
    · simpa [hp] using idxP_any p l (i + 1) (by omega)
theorem IndexFunc_spec {C : CallW} (hC : LeC C C) (P : Program) : ∀ (l : List Wr) (g : FuncId) (cp : AV) (p : Wr → Bool) S H (K : AV → St → Prop), l.length ≤ 9223372036854775807 → cp.sh = cp → cp.look = cp → AV.under S.length cp = true → AskS C g cp p S H → ∀ G0, (∀ G, K (.i (idxP p l 0)) ⟨S, H ++ G⟩) →
    runL C P C_slices_IndexFunc_Write [.list .sh 18 (l.map wA), .fn (.func g) [] [cp]] ⟨S, H ++ G0⟩ K := by
  intro l g cp p S H K hl hc1 hc2 hu hask G0 hK
  simp only [C_slices_IndexFunc_Write, RUN_, U_slices_IndexFunc_Write, FR_, Nat.reducePow, Int.reducePow, Nat.reduceAdd, Nat.reduceSub, Nat.reduceMul, Int.reduceToNat, Nat.reduceLeDiff, Nat.reduceEqDiff, Nat.reduceLT, Nat.reduceGT, Int.reduceGT, Int.reduceGE, Int.reduceLT, Int.reduceLE, Int.reduceEq, Int.reduceAdd, Int.reduceSub, Int.reduceNeg, reduceCtorEq, if_true, if_false, ite_true, ite_false, ne_eq, eq_self, OPK_, KEY_, WR_, CHK_, Nat.reduceBEq, K4_, K5_, K6_, K7_]
  refine loop_rule hC (α := Nat × List HObj) (fun a => l.length - a.1) (fun a => [.list .sh 18 (l.map wA), .fn (.func g) [] [cp], .undef, .undef, .undef, .undef, .undef, .s (.int .i64 l.length), .s (.int .i64 a.1), .undef, .undef, .undef, .undef, .undef, .undef, .undef, .undef, .undef, .undef]) (fun _ => S) (fun a => H ++ a.2) (fun a => a.1 ≤ l.length ∧ idxP p l 0 = idxP p (l.drop a.1) a.1) (0, G0) ⟨by simp, rfl⟩ rfl (by simp) rfl (fun a _ => by simp [AV.under, AV.under.go, hu]) ?_
  rintro ⟨i, G⟩ ⟨hi, hinv⟩ ih
  dsimp only at hi hinv ih ⊢
  by_cases h16 : i < l.length
  · have hlt : ((i : Int) < (l.length : Int)) := by omega
    have hw : IntKind.i64.wrap ((i : Int) + 1) = (i : Int) + 1 := wrap_i64 (by omega) (by omega)
    rw [List.drop_eq_getElem_cons h16, idxP] at hinv
    simp only [RUN_, U_slices_IndexFunc_Write, FR_, Nat.reducePow, Int.reducePow, Nat.reduceAdd, Nat.reduceSub, Nat.reduceMul, Int.reduceToNat, Nat.reduceLeDiff, Nat.reduceEqDiff, Nat.reduceLT, Nat.reduceGT, Int.reduceGT, Int.reduceGE, Int.reduceLT, Int.reduceLE, Int.reduceEq, Int.reduceAdd, Int.reduceSub, Int.reduceNeg, reduceCtorEq, if_true, if_false, ite_true, ite_false, ne_eq, eq_self, OPK_, KEY_, WR_, CHK_, Nat.reduceBEq, K4_, K5_, K6_, K7_, hlt, h16]
    refine hask _ _ _ fun G' => ?_
    cases hp : p l[i] with
    | true =>
      rw [hp, if_pos rfl] at hinv
      rw [hinv] at hK
      simp only [RUN_, U_slices_IndexFunc_Write, FR_, Nat.reducePow, Int.reducePow, Nat.reduceAdd, Nat.reduceSub, Nat.reduceMul, Int.reduceToNat, Nat.reduceLeDiff, Nat.reduceEqDiff, Nat.reduceLT, Nat.reduceGT, Int.reduceGT, Int.reduceGE, Int.reduceLT, Int.reduceLE, Int.reduceEq, Int.reduceAdd, Int.reduceSub, Int.reduceNeg, reduceCtorEq, if_true, if_false, ite_true, ite_false, ne_eq, eq_self, OPK_, KEY_, WR_, CHK_, Nat.reduceBEq, K4_, K5_, K6_, K7_]
      exact hK _
    | false =>
      rw [hp] at hinv
      simp only [RUN_, U_slices_IndexFunc_Write, FR_, Nat.reducePow, Int.reducePow, Nat.reduceAdd, Nat.reduceSub, Nat.reduceMul, Int.reduceToNat, Nat.reduceLeDiff, Nat.reduceEqDiff, Nat.reduceLT, Nat.reduceGT, Int.reduceGT, Int.reduceGE, Int.reduceLT, Int.reduceLE, Int.reduceEq, Int.reduceAdd, Int.reduceSub, Int.reduceNeg, reduceCtorEq, if_true, if_false, ite_true, ite_false, ne_eq, eq_self, OPK_, KEY_, WR_, CHK_, Nat.reduceBEq, K4_, K5_, K6_, K7_, hw]
      exact ih (i + 1, G') _ _ _ (by simp; omega) ⟨by simp; omega, hinv⟩ rfl (by simp) rfl
  · have hlt : ¬ ((i : Int) < (l.length : Int)) := by omega
    rw [List.drop_of_length_le (by omega)] at hinv
    rw [hinv] at hK
    simp only [RUN_, U_slices_IndexFunc_Write, FR_, Nat.reducePow, Int.reducePow, Nat.reduceAdd, Nat.reduceSub, Nat.reduceMul, Int.reduceToNat, Nat.reduceLeDiff, Nat.reduceEqDiff, Nat.reduceLT, Nat.reduceGT, Int.reduceGT, Int.reduceGE, Int.reduceLT, Int.reduceLE, Int.reduceEq, Int.reduceAdd, Int.reduceSub, Int.reduceNeg, reduceCtorEq, if_true, if_false, ite_true, ite_false, ne_eq, eq_self, OPK_, KEY_, WR_, CHK_, Nat.reduceBEq, K4_, K5_, K6_, K7_, hlt]
    exact hK _
def IdxFS (C : CallW) (f : FuncId) : Prop := ∀ (l : List Wr) (g : FuncId) (cp : AV) (p : Wr → Bool) S H (K : AV → St → Prop), l.length ≤ 9223372036854775807 → cp.sh = cp → cp.look = cp → AV.under S.length cp = true → AskS C g cp p S H → ∀ G0, (∀ G, K (.i (idxP p l 0)) ⟨S, H ++ G⟩) →
    C (.fn f) [.list .sh 18 (l.map wA), .fn (.func g) [] [cp]] ⟨S, H ++ G0⟩ K
theorem ContainsFunc_spec {C : CallW} (P : Program) {c : Nat → FuncId} (h0 : IdxFS C (c 0)) : ∀ (l : List Wr) (g : FuncId) (cp : AV) (p : Wr → Bool) S H (K : AV → St → Prop), l.length ≤ 9223372036854775807 → cp.sh = cp → cp.look = cp → AV.under S.length cp = true → AskS C g cp p S H → ∀ G0, (∀ G, K (.bool (l.any p)) ⟨S, H ++ G⟩) →
    runL C P (C_slices_ContainsFunc_Write c) [.list .sh 18 (l.map wA), .fn (.func g) [] [cp]] ⟨S, H ++ G0⟩ K := by
  intro l g cp p S H K hl hc1 hc2 hu hask G0 hK
  have hi := idxP_any p l 0 (by omega)
  simp only [C_slices_ContainsFunc_Write, RUN_, U_slices_ContainsFunc_Write, FR_, Nat.reducePow, Int.reducePow, Nat.reduceAdd, Nat.reduceSub, Nat.reduceMul, Int.reduceToNat, Nat.reduceLeDiff, Nat.reduceEqDiff, Nat.reduceLT, Nat.reduceGT, Int.reduceGT, Int.reduceGE, Int.reduceLT, Int.reduceLE, Int.reduceEq, Int.reduceAdd, Int.reduceSub, Int.reduceNeg, reduceCtorEq, if_true, if_false, ite_true, ite_false, ne_eq, eq_self, OPK_, KEY_, WR_, CHK_, Nat.reduceBEq, K4_, K5_, K6_, K7_]
  refine h0 l g cp p S H _ hl hc1 hc2 hu hask G0 fun G => ?_
  simp only [RUN_, U_slices_ContainsFunc_Write, FR_, Nat.reducePow, Int.reducePow, Nat.reduceAdd, Nat.reduceSub, Nat.reduceMul, Int.reduceToNat, Nat.reduceLeDiff, Nat.reduceEqDiff, Nat.reduceLT, Nat.reduceGT, Int.reduceGT, Int.reduceGE, Int.reduceLT, Int.reduceLE, Int.reduceEq, Int.reduceAdd, Int.reduceSub, Int.reduceNeg, reduceCtorEq, if_true, if_false, ite_true, ite_false, ne_eq, eq_self, OPK_, KEY_, WR_, CHK_, Nat.reduceBEq, K4_, K5_, K6_, K7_, hi]
  exact hK _
def ContS (C : CallW) (f : FuncId) : Prop := ∀ (l : List Wr) (g : FuncId) (cp : AV) (p : Wr → Bool) S H (K : AV → St → Prop), l.length ≤ 9223372036854775807 → cp.sh = cp → cp.look = cp → AV.under S.length cp = true → AskS C g cp p S H → ∀ G0, (∀ G, K (.bool (l.any p)) ⟨S, H ++ G⟩) →
    C (.fn f) [.list .sh 18 (l.map wA), .fn (.func g) [] [cp]] ⟨S, H ++ G0⟩ K

theorem shares1_spec {C : CallW} (P : Program) {c : Nat → FuncId} (h0 : LastS C (c 0)) : ∀ (w : Wr) (b : Tx) (r : Nat) S H (K : AV → St → Prop), b.writes.length ≤ 9223372036854775807 → S[r]? = some (txc b) → (∀ G, K (.bool (lastR w.key b.writes).2) ⟨S, H ++ G⟩) → runL C P (C_hist_shares_1 c) [.agg (wc w), .ptr (.stk r) 0] ⟨S, H⟩ K := by
  intro w b r S H K hl hr hK
  have hr1 : (S ++ [wc w])[r]? = some (txc b) := by rw [List.getElem?_append_left (List.getElem?_eq_some_iff.1 hr).1]; exact hr
  have hrd : readA ⟨S ++ [wc w], H⟩ (.ptr (.stk r) 0) 8 = some (.agg (txc b)) := by
    simp only [readA, readCells, boxOf_stk, hr1, Option.bind_some, txc_len, Nat.zero_add, Nat.le_refl, if_true, List.drop_zero, Option.map_some]
    rw [List.take_of_length_le (by rw [txc_len]; omega)]; rfl
  have h0' := h0 b
  unfold txc at h0'
  simp only [C_hist_shares_1, RUN_, U_hist_shares_1, FR_, Nat.reducePow, Int.reducePow, Nat.reduceAdd, Nat.reduceSub, Nat.reduceMul, Int.reduceToNat, Nat.reduceLeDiff, Nat.reduceEqDiff, Nat.reduceLT, Nat.reduceGT, Int.reduceGT, Int.reduceGE, Int.reduceLT, Int.reduceLE, Int.reduceEq, Int.reduceAdd, Int.reduceSub, Int.reduceNeg, reduceCtorEq, if_true, if_false, ite_true, ite_false, ne_eq, eq_self, OPK_, KEY_, WR_, CHK_, Nat.reduceBEq, K4_, K5_, K6_, K7_, hrd]
  refine h0' _ _ _ _ hl fun G => ?_
  simp only [RUN_, U_hist_shares_1, FR_, Nat.reducePow, Int.reducePow, Nat.reduceAdd, Nat.reduceSub, Nat.reduceMul, Int.reduceToNat, Nat.reduceLeDiff, Nat.reduceEqDiff, Nat.reduceLT, Nat.reduceGT, Int.reduceGT, Int.reduceGE, Int.reduceLT, Int.reduceLE, Int.reduceEq, Int.reduceAdd, Int.reduceSub, Int.reduceNeg, reduceCtorEq, if_true, if_false, ite_true, ite_false, ne_eq, eq_self, OPK_, KEY_, WR_, CHK_, Nat.reduceBEq, K4_, K5_, K6_, K7_]
  exact hK _
def Shares1S (C : CallW) (f : FuncId) : Prop := ∀ (w : Wr) (b : Tx) (r : Nat) S H (K : AV → St → Prop), b.writes.length ≤ 9223372036854775807 → S[r]? = some (txc b) → (∀ G, K (.bool (lastR w.key b.writes).2) ⟨S, H ++ G⟩) → C (.fn f) [.agg (wc w), .ptr (.stk r) 0] ⟨S, H⟩ K
def TwoT (p : Tx → Tx → Bool) (C : CallW) (f : FuncId) : Prop := ∀ (a b : Tx) S H (K : AV → St → Prop), a.writes.length ≤ 9223372036854775807 → b.writes.length ≤ 9223372036854775807 → (∀ G, K (.bool (p a b)) ⟨S, H ++ G⟩) → C (.fn f) [.agg (txc a), .agg (txc b)] ⟨S, H⟩ K
theorem shares_spec {C : CallW} (P : Program) {c : Nat → FuncId} (h0 : Shares1S C (c 0)) (h1 : ContS C (c 1)) : ∀ (a b : Tx) S H (K : AV → St → Prop), a.writes.length ≤ 9223372036854775807 → b.writes.length ≤ 9223372036854775807 → (∀ G, K (.bool (sharesT a b)) ⟨S, H ++ G⟩) → runL C P (C_hist_shares c) [.agg (txc a), .agg (txc b)] ⟨S, H⟩ K := by
  intro a b S H K hla hlb hK
  simp only [C_hist_shares, RUN_, U_hist_shares, FR_, Nat.reducePow, Int.reducePow, Nat.reduceAdd, Nat.reduceSub, Nat.reduceMul, Int.reduceToNat, Nat.reduceLeDiff, Nat.reduceEqDiff, Nat.reduceLT, Nat.reduceGT, Int.reduceGT, Int.reduceGE, Int.reduceLT, Int.reduceLE, Int.reduceEq, Int.reduceAdd, Int.reduceSub, Int.reduceNeg, reduceCtorEq, if_true, if_false, ite_true, ite_false, ne_eq, eq_self, OPK_, KEY_, WR_, CHK_, Nat.reduceBEq, K4_, K5_, K6_, K7_]
  rw [show H = H ++ [] by simp]
  refine h1 a.writes _ _ (fun w => (lastR w.key b.writes).2) _ _ _ hla rfl rfl (by simp [AV.under]) (fun w G K hK => ?_) [] fun G => ?_
  · exact h0 w b _ _ _ _ hlb (by simp [txc]) fun G' => by rw [List.append_assoc]; exact hK _
  · simp only [RUN_, U_hist_shares, FR_, Nat.reducePow, Int.reducePow, Nat.reduceAdd, Nat.reduceSub, Nat.reduceMul, Int.reduceToNat, Nat.reduceLeDiff, Nat.reduceEqDiff, Nat.reduceLT, Nat.reduceGT, Int.reduceGT, Int.reduceGE, Int.reduceLT, Int.reduceLE, Int.reduceEq, Int.reduceAdd, Int.reduceSub, Int.reduceNeg, reduceCtorEq, if_true, if_false, ite_true, ite_false, ne_eq, eq_self, OPK_, KEY_, WR_, CHK_, Nat.reduceBEq, K4_, K5_, K6_, K7_]
    exact hK _
end Go.AM
namespace Go.AM
open Go
set_option maxRecDepth 20000
set_option linter.unusedSimpArgs false
set_option linter.unusedVariables false

def okT (l : List Tx) : Prop := ∀ x ∈ l, x.writes.length ≤ 9223372036854775807 ∧ x.reads.length ≤ 9223372036854775807
structure VSt where
  best : Wr
  top : Stp
  found : Bool
def vSt0 : VSt := ⟨zW, ⟨0, 0⟩, false⟩
def valStep (k : Key) (at_ : Stp) (st : VSt) (x : Tx) : VSt :=
  if (lastR k x.writes).2 = false then st else if x.done = false then st else if 0 < cmpS x.stamp at_ then st else if st.found = true ∧ cmpS x.stamp st.top ≤ 0 then st else ⟨(lastR k x.writes).1, x.stamp, true⟩
def valR (st : VSt) : List UInt8 × Bool := if st.found = false ∨ st.best.gone = true then ([], false) else (st.best.val, true)
def valueT (l : List Tx) (k : Key) (at_ : Stp) : List UInt8 × Bool := valR (l.foldl (valStep k at_) vSt0)
def ValueS (C : CallW) (f : FuncId) : Prop := ∀ (l : List Tx) (k : Key) (at_ : Stp) S H (K : AV → St → Prop), l.length ≤ 9223372036854775807 → okT l → (∀ G, K (.tup [.s (.str (valueT l k at_).1), .bool (valueT l k at_).2]) ⟨S, H ++ G⟩) → C (.fn f) [lstT l, .agg (bs k.b), .agg (stc at_)] ⟨S, H⟩ K

theorem wc_eq' (w : Wr) : bs w.key.b ++ [.s (.str w.val), .s (.bool w.gone)] = wc w := rfl
set_option maxHeartbeats 8000000 in
theorem Value_spec {C : CallW} (hC : LeC C C) (P : Program) {c : Nat → FuncId} (h0 : LastS C (c 0)) (h1 : CmpSS C (c 1)) : ∀ (l : List Tx) (k : Key) (at_ : Stp) S H (K : AV → St → Prop), l.length ≤ 9223372036854775807 → okT l → (∀ G, K (.tup [.s (.str (valueT l k at_).1), .bool (valueT l k at_).2]) ⟨S, H ++ G⟩) →
    runL C P (C_hist_Value c) [lstT l, .agg (bs k.b), .agg (stc at_)] ⟨S, H⟩ K := by
  intro l k at_ S H K hl hok hK
  have h1' : ∀ (a b : Stp) S H (K : AV → St → Prop), K (.i (cmpS a b)) ⟨S, H⟩ → C (.fn (c 1)) [.agg [.s (.int .i64 a.t), u8 a.n], .agg (stc b)] ⟨S, H⟩ K := h1
  simp only [lstT, C_hist_Value, RUN_, U_hist_Value, FR_, Nat.reducePow, Int.reducePow, Nat.reduceAdd, Nat.reduceSub, Nat.reduceMul, Int.reduceToNat, Nat.reduceLeDiff, Nat.reduceEqDiff, Nat.reduceLT, Nat.reduceGT, Int.reduceGT, Int.reduceGE, Int.reduceLT, Int.reduceLE, Int.reduceEq, Int.reduceAdd, Int.reduceSub, Int.reduceNeg, reduceCtorEq, if_true, if_false, ite_true, ite_false, ne_eq, eq_self, OPK_, KEY_, WR_, CHK_, Nat.reduceBEq, K4_, K5_, K6_, K7_]
  refine loop_rule hC (α := Nat × VSt × List HObj) (fun a => l.length - a.1) (fun a => [.undef, .undef, .undef, .undef, .ptr (.stk S.length) 0, .ptr (.stk (S.length + 1)) 0, .undef, .undef, .ptr (.stk (S.length + 2)) 0, .ptr (.stk (S.length + 3)) 0, .s (.bool a.2.1.found), .undef, .undef, .undef, .undef, .list .sh 8 (l.map txA), .s (.int .i64 l.length), .s (.int .i64 a.1), .undef, .undef, .undef, .undef, .undef, .undef, .undef, .undef, .undef, .undef, .undef, .undef, .undef, .undef, .undef, .undef, .undef, .undef, .undef, .undef, .undef, .undef, .undef, .undef, .undef, .undef, .undef, .undef, .undef, .undef, .undef, .undef, .undef, .undef, .undef, .undef, .undef, .undef, .undef, .undef, .undef, .undef, .undef, .undef, .undef]) (fun a => S ++ [bs k.b, stc at_, wc a.2.1.best, stc a.2.1.top]) (fun a => H ++ a.2.2) (fun a => a.1 ≤ l.length ∧ l.foldl (valStep k at_) vSt0 = (l.drop a.1).foldl (valStep k at_) a.2.1) (0, vSt0, []) ⟨by simp, rfl⟩ rfl (by rw [app_take_add]; rfl) (by simp) (fun a _ => by simp [AV.under, AV.under.go]) ?_
  rintro ⟨i, st, G⟩ ⟨hi, hinv⟩ ih
  dsimp only at hi hinv ih ⊢
  by_cases h16 : i < l.length
  · have hlt : ((i : Int) < (l.length : Int)) := by omega
    have hw : IntKind.i64.wrap ((i : Int) + 1) = (i : Int) + 1 := wrap_i64 (by omega) (by omega)
    rw [List.drop_eq_getElem_cons h16, List.foldl_cons, valStep] at hinv
    have hx := hok l[i] (List.getElem_mem h16)
    have h0' := h0 l[i]
    unfold txc at h0'
    simp only [RUN_, U_hist_Value, FR_, Nat.reducePow, Int.reducePow, Nat.reduceAdd, Nat.reduceSub, Nat.reduceMul, Int.reduceToNat, Nat.reduceLeDiff, Nat.reduceEqDiff, Nat.reduceLT, Nat.reduceGT, Int.reduceGT, Int.reduceGE, Int.reduceLT, Int.reduceLE, Int.reduceEq, Int.reduceAdd, Int.reduceSub, Int.reduceNeg, reduceCtorEq, if_true, if_false, ite_true, ite_false, ne_eq, eq_self, OPK_, KEY_, WR_, CHK_, Nat.reduceBEq, K4_, K5_, K6_, K7_, hlt, h16]
    refine h0' _ _ _ _ hx.1 fun G' => ?_
    cases e1 : (lastR k (l[i]).writes).2 with
    | false =>
      rw [e1, if_pos rfl] at hinv
      simp only [RUN_, U_hist_Value, FR_, Nat.reducePow, Int.reducePow, Nat.reduceAdd, Nat.reduceSub, Nat.reduceMul, Int.reduceToNat, Nat.reduceLeDiff, Nat.reduceEqDiff, Nat.reduceLT, Nat.reduceGT, Int.reduceGT, Int.reduceGE, Int.reduceLT, Int.reduceLE, Int.reduceEq, Int.reduceAdd, Int.reduceSub, Int.reduceNeg, reduceCtorEq, if_true, if_false, ite_true, ite_false, ne_eq, eq_self, OPK_, KEY_, WR_, CHK_, Nat.reduceBEq, K4_, K5_, K6_, K7_, e1, hw]
      exact ih (i + 1, st, G ++ G') _ _ _ (by simp; omega) ⟨by simp; omega, hinv⟩ rfl (by rw [app_take_add]; rfl) (by simp)
    | true =>
      rw [e1, if_neg (by simp)] at hinv
      cases e2 : (l[i]).done with
      | false =>
        rw [e2, if_pos rfl] at hinv
        simp only [RUN_, U_hist_Value, FR_, Nat.reducePow, Int.reducePow, Nat.reduceAdd, Nat.reduceSub, Nat.reduceMul, Int.reduceToNat, Nat.reduceLeDiff, Nat.reduceEqDiff, Nat.reduceLT, Nat.reduceGT, Int.reduceGT, Int.reduceGE, Int.reduceLT, Int.reduceLE, Int.reduceEq, Int.reduceAdd, Int.reduceSub, Int.reduceNeg, reduceCtorEq, if_true, if_false, ite_true, ite_false, ne_eq, eq_self, OPK_, KEY_, WR_, CHK_, Nat.reduceBEq, K4_, K5_, K6_, K7_, e1, e2, hw]
        exact ih (i + 1, st, G ++ G') _ _ _ (by simp; omega) ⟨by simp; omega, hinv⟩ rfl (by rw [app_take_add]; rfl) (by simp)
      | true =>
        rw [e2, if_neg (by simp)] at hinv
        simp only [RUN_, U_hist_Value, FR_, Nat.reducePow, Int.reducePow, Nat.reduceAdd, Nat.reduceSub, Nat.reduceMul, Int.reduceToNat, Nat.reduceLeDiff, Nat.reduceEqDiff, Nat.reduceLT, Nat.reduceGT, Int.reduceGT, Int.reduceGE, Int.reduceLT, Int.reduceLE, Int.reduceEq, Int.reduceAdd, Int.reduceSub, Int.reduceNeg, reduceCtorEq, if_true, if_false, ite_true, ite_false, ne_eq, eq_self, OPK_, KEY_, WR_, CHK_, Nat.reduceBEq, K4_, K5_, K6_, K7_, e1, e2, hw]
        refine h1' (l[i]).stamp at_ _ _ _ ?_
        by_cases e3 : 0 < cmpS (l[i]).stamp at_
        · rw [if_pos e3] at hinv
          simp only [RUN_, U_hist_Value, FR_, Nat.reducePow, Int.reducePow, Nat.reduceAdd, Nat.reduceSub, Nat.reduceMul, Int.reduceToNat, Nat.reduceLeDiff, Nat.reduceEqDiff, Nat.reduceLT, Nat.reduceGT, Int.reduceGT, Int.reduceGE, Int.reduceLT, Int.reduceLE, Int.reduceEq, Int.reduceAdd, Int.reduceSub, Int.reduceNeg, reduceCtorEq, if_true, if_false, ite_true, ite_false, ne_eq, eq_self, OPK_, KEY_, WR_, CHK_, Nat.reduceBEq, K4_, K5_, K6_, K7_, e1, e2, e3, hw]
          exact ih (i + 1, st, G ++ G') _ _ _ (by simp; omega) ⟨by simp; omega, hinv⟩ rfl (by rw [app_take_add]; rfl) (by simp)
        · rw [if_neg e3] at hinv
          obtain ⟨best, top, fd⟩ := st
          cases fd with
          | false =>
            rw [if_neg (by simp)] at hinv
            simp only [RUN_, U_hist_Value, FR_, Nat.reducePow, Int.reducePow, Nat.reduceAdd, Nat.reduceSub, Nat.reduceMul, Int.reduceToNat, Nat.reduceLeDiff, Nat.reduceEqDiff, Nat.reduceLT, Nat.reduceGT, Int.reduceGT, Int.reduceGE, Int.reduceLT, Int.reduceLE, Int.reduceEq, Int.reduceAdd, Int.reduceSub, Int.reduceNeg, reduceCtorEq, if_true, if_false, ite_true, ite_false, ne_eq, eq_self, OPK_, KEY_, WR_, CHK_, Nat.reduceBEq, K4_, K5_, K6_, K7_, e1, e2, e3, hw]
            exact ih (i + 1, _, G ++ G') _ _ _ (by simp; omega) ⟨by simp; omega, hinv⟩ rfl (by rw [app_take_add]; rfl) (by simp)
          | true =>
            simp only [RUN_, U_hist_Value, FR_, Nat.reducePow, Int.reducePow, Nat.reduceAdd, Nat.reduceSub, Nat.reduceMul, Int.reduceToNat, Nat.reduceLeDiff, Nat.reduceEqDiff, Nat.reduceLT, Nat.reduceGT, Int.reduceGT, Int.reduceGE, Int.reduceLT, Int.reduceLE, Int.reduceEq, Int.reduceAdd, Int.reduceSub, Int.reduceNeg, reduceCtorEq, if_true, if_false, ite_true, ite_false, ne_eq, eq_self, OPK_, KEY_, WR_, CHK_, Nat.reduceBEq, K4_, K5_, K6_, K7_, e1, e2, e3, hw]
            refine h1' (l[i]).stamp top _ _ _ ?_
            by_cases e5 : cmpS (l[i]).stamp top ≤ 0
            · rw [if_pos ⟨rfl, e5⟩] at hinv
              simp only [RUN_, U_hist_Value, FR_, Nat.reducePow, Int.reducePow, Nat.reduceAdd, Nat.reduceSub, Nat.reduceMul, Int.reduceToNat, Nat.reduceLeDiff, Nat.reduceEqDiff, Nat.reduceLT, Nat.reduceGT, Int.reduceGT, Int.reduceGE, Int.reduceLT, Int.reduceLE, Int.reduceEq, Int.reduceAdd, Int.reduceSub, Int.reduceNeg, reduceCtorEq, if_true, if_false, ite_true, ite_false, ne_eq, eq_self, OPK_, KEY_, WR_, CHK_, Nat.reduceBEq, K4_, K5_, K6_, K7_, e1, e2, e3, e5, hw]
              exact ih (i + 1, ⟨best, top, true⟩, G ++ G') _ _ _ (by simp; omega) ⟨by simp; omega, hinv⟩ rfl (by rw [app_take_add]; rfl) (by simp)
            · rw [if_neg (by simp; omega)] at hinv
              simp only [RUN_, U_hist_Value, FR_, Nat.reducePow, Int.reducePow, Nat.reduceAdd, Nat.reduceSub, Nat.reduceMul, Int.reduceToNat, Nat.reduceLeDiff, Nat.reduceEqDiff, Nat.reduceLT, Nat.reduceGT, Int.reduceGT, Int.reduceGE, Int.reduceLT, Int.reduceLE, Int.reduceEq, Int.reduceAdd, Int.reduceSub, Int.reduceNeg, reduceCtorEq, if_true, if_false, ite_true, ite_false, ne_eq, eq_self, OPK_, KEY_, WR_, CHK_, Nat.reduceBEq, K4_, K5_, K6_, K7_, e1, e2, e3, e5, hw]
              exact ih (i + 1, _, G ++ G') _ _ _ (by simp; omega) ⟨by simp; omega, hinv⟩ rfl (by rw [app_take_add]; rfl) (by simp)
  · have hlt : ¬ ((i : Int) < (l.length : Int)) := by omega
    rw [List.drop_of_length_le (by omega)] at hinv
    have hv : valueT l k at_ = valR st := by unfold valueT; rw [hinv]; rfl
    rw [hv] at hK
    unfold valR at hK
    cases e4 : st.found with
    | false =>
      rw [e4, if_pos (.inl rfl)] at hK
      simp only [RUN_, U_hist_Value, FR_, Nat.reducePow, Int.reducePow, Nat.reduceAdd, Nat.reduceSub, Nat.reduceMul, Int.reduceToNat, Nat.reduceLeDiff, Nat.reduceEqDiff, Nat.reduceLT, Nat.reduceGT, Int.reduceGT, Int.reduceGE, Int.reduceLT, Int.reduceLE, Int.reduceEq, Int.reduceAdd, Int.reduceSub, Int.reduceNeg, reduceCtorEq, if_true, if_false, ite_true, ite_false, ne_eq, eq_self, OPK_, KEY_, WR_, CHK_, Nat.reduceBEq, K4_, K5_, K6_, K7_, hlt, e4]
      exact hK _
    | true =>
      cases e5 : st.best.gone with
      | true =>
        rw [e5, if_pos (.inr rfl)] at hK
        simp only [RUN_, U_hist_Value, FR_, Nat.reducePow, Int.reducePow, Nat.reduceAdd, Nat.reduceSub, Nat.reduceMul, Int.reduceToNat, Nat.reduceLeDiff, Nat.reduceEqDiff, Nat.reduceLT, Nat.reduceGT, Int.reduceGT, Int.reduceGE, Int.reduceLT, Int.reduceLE, Int.reduceEq, Int.reduceAdd, Int.reduceSub, Int.reduceNeg, reduceCtorEq, if_true, if_false, ite_true, ite_false, ne_eq, eq_self, OPK_, KEY_, WR_, CHK_, Nat.reduceBEq, K4_, K5_, K6_, K7_, hlt, e4, e5]
        exact hK _
      | false =>
        rw [e4, e5, if_neg (by simp)] at hK
        simp only [RUN_, U_hist_Value, FR_, Nat.reducePow, Int.reducePow, Nat.reduceAdd, Nat.reduceSub, Nat.reduceMul, Int.reduceToNat, Nat.reduceLeDiff, Nat.reduceEqDiff, Nat.reduceLT, Nat.reduceGT, Int.reduceGT, Int.reduceGE, Int.reduceLT, Int.reduceLE, Int.reduceEq, Int.reduceAdd, Int.reduceSub, Int.reduceNeg, reduceCtorEq, if_true, if_false, ite_true, ite_false, ne_eq, eq_self, OPK_, KEY_, WR_, CHK_, Nat.reduceBEq, K4_, K5_, K6_, K7_, hlt, e4, e5]
        exact hK _
end Go.AM
namespace Go.AM
open Go
set_option maxRecDepth 20000
set_option linter.unusedSimpArgs false
set_option linter.unusedVariables false

def fltA (k a b : Int) : AV := .agg [.i k, .i a, .i b]
def aloneF : List Tx → Nat → Option Nat
  | [], _ => none
  | x :: l, i => if wroteT x = true ∧ cmpS x.stamp x.snap ≤ 0 then some i else aloneF l (i + 1)
def aloneA : Option Nat → AV
  | some i => .tup [fltA 1 i (-1), .bool true]
  | none => .tup [fltA 0 0 0, .bool false]
def WroteS (C : CallW) (f : FuncId) : Prop := ∀ x : Tx, FnS C f [.agg (txc x)] (.bool (wroteT x))
def AloneS (C : CallW) (f : FuncId) : Prop := ∀ (l : List Tx) S H (K : AV → St → Prop), l.length ≤ 9223372036854775807 → K (aloneA (aloneF l 0)) ⟨S, H⟩ → C (.fn f) [lstT l] ⟨S, H⟩ K

set_option maxHeartbeats 4000000 in
theorem alone_spec {C : CallW} (hC : LeC C C) (P : Program) {c : Nat → FuncId} (h0 : WroteS C (c 0)) (h1 : CmpSS C (c 1)) : ∀ (l : List Tx) S H (K : AV → St → Prop), l.length ≤ 9223372036854775807 → K (aloneA (aloneF l 0)) ⟨S, H⟩ → runL C P (C_hist_alone c) [lstT l] ⟨S, H⟩ K := by
  intro l S H K hl hK
  have h1' : ∀ (a b : Stp) S H (K : AV → St → Prop), K (.i (cmpS a b)) ⟨S, H⟩ → C (.fn (c 1)) [.agg [.s (.int .i64 a.t), u8 a.n], .agg [.s (.int .i64 b.t), u8 b.n]] ⟨S, H⟩ K := h1
  simp only [lstT, C_hist_alone, RUN_, U_hist_alone, FR_, Nat.reducePow, Int.reducePow, Nat.reduceAdd, Nat.reduceSub, Nat.reduceMul, Int.reduceToNat, Nat.reduceLeDiff, Nat.reduceEqDiff, Nat.reduceLT, Nat.reduceGT, Int.reduceGT, Int.reduceGE, Int.reduceLT, Int.reduceLE, Int.reduceEq, Int.reduceAdd, Int.reduceSub, Int.reduceNeg, reduceCtorEq, if_true, if_false, ite_true, ite_false, ne_eq, eq_self, OPK_, KEY_, WR_, CHK_, Nat.reduceBEq, K4_, K5_, K6_, K7_]
  refine loop_rule hC (α := Nat) (fun a => l.length - a) (fun a => [.undef, .undef, .ptr (.stk S.length) 0, .undef, .undef, .undef, .list .sh 8 (l.map txA), .s (.int .i64 l.length), .s (.int .i64 a), .undef, .undef, .undef, .undef, .undef, .undef, .undef, .undef, .undef, .undef, .undef, .undef, .undef, .undef, .undef, .undef, .undef, .undef]) (fun a => S ++ [[.i 0, .i 0, .i 0]]) (fun a => H) (fun a => a ≤ l.length ∧ aloneF l 0 = aloneF (l.drop a) a) 0 ⟨by simp, rfl⟩ rfl (by rw [app_take_add]; rfl) rfl (fun a _ => by simp [AV.under, AV.under.go]) ?_
  rintro i ⟨hi, hinv⟩ ih
  by_cases h16 : i < l.length
  · have hlt : ((i : Int) < (l.length : Int)) := by omega
    have hw : IntKind.i64.wrap ((i : Int) + 1) = (i : Int) + 1 := wrap_i64 (by omega) (by omega)
    rw [List.drop_eq_getElem_cons h16, aloneF] at hinv
    have h0' := h0 l[i]
    unfold txc at h0'
    simp only [RUN_, U_hist_alone, FR_, Nat.reducePow, Int.reducePow, Nat.reduceAdd, Nat.reduceSub, Nat.reduceMul, Int.reduceToNat, Nat.reduceLeDiff, Nat.reduceEqDiff, Nat.reduceLT, Nat.reduceGT, Int.reduceGT, Int.reduceGE, Int.reduceLT, Int.reduceLE, Int.reduceEq, Int.reduceAdd, Int.reduceSub, Int.reduceNeg, reduceCtorEq, if_true, if_false, ite_true, ite_false, ne_eq, eq_self, OPK_, KEY_, WR_, CHK_, Nat.reduceBEq, K4_, K5_, K6_, K7_, hlt, h16]
    refine h0' _ _ _ ?_
    cases e1 : wroteT l[i] with
    | false =>
      rw [e1, if_neg (by simp)] at hinv
      simp only [RUN_, U_hist_alone, FR_, Nat.reducePow, Int.reducePow, Nat.reduceAdd, Nat.reduceSub, Nat.reduceMul, Int.reduceToNat, Nat.reduceLeDiff, Nat.reduceEqDiff, Nat.reduceLT, Nat.reduceGT, Int.reduceGT, Int.reduceGE, Int.reduceLT, Int.reduceLE, Int.reduceEq, Int.reduceAdd, Int.reduceSub, Int.reduceNeg, reduceCtorEq, if_true, if_false, ite_true, ite_false, ne_eq, eq_self, OPK_, KEY_, WR_, CHK_, Nat.reduceBEq, K4_, K5_, K6_, K7_, hw]
      exact ih (i + 1) _ _ _ (by omega) ⟨by omega, hinv⟩ rfl (by rw [app_take_add]; rfl) rfl
    | true =>
      simp only [RUN_, U_hist_alone, FR_, Nat.reducePow, Int.reducePow, Nat.reduceAdd, Nat.reduceSub, Nat.reduceMul, Int.reduceToNat, Nat.reduceLeDiff, Nat.reduceEqDiff, Nat.reduceLT, Nat.reduceGT, Int.reduceGT, Int.reduceGE, Int.reduceLT, Int.reduceLE, Int.reduceEq, Int.reduceAdd, Int.reduceSub, Int.reduceNeg, reduceCtorEq, if_true, if_false, ite_true, ite_false, ne_eq, eq_self, OPK_, KEY_, WR_, CHK_, Nat.reduceBEq, K4_, K5_, K6_, K7_, hw]
      refine h1' (l[i]).stamp (l[i]).snap _ _ _ ?_
      by_cases e2 : cmpS (l[i]).stamp (l[i]).snap ≤ 0
      · rw [if_pos ⟨e1, e2⟩] at hinv
        rw [hinv] at hK
        simp only [RUN_, U_hist_alone, FR_, Nat.reducePow, Int.reducePow, Nat.reduceAdd, Nat.reduceSub, Nat.reduceMul, Int.reduceToNat, Nat.reduceLeDiff, Nat.reduceEqDiff, Nat.reduceLT, Nat.reduceGT, Int.reduceGT, Int.reduceGE, Int.reduceLT, Int.reduceLE, Int.reduceEq, Int.reduceAdd, Int.reduceSub, Int.reduceNeg, reduceCtorEq, if_true, if_false, ite_true, ite_false, ne_eq, eq_self, OPK_, KEY_, WR_, CHK_, Nat.reduceBEq, K4_, K5_, K6_, K7_, e2]
        exact hK
      · rw [if_neg (fun h => e2 h.2)] at hinv
        simp only [RUN_, U_hist_alone, FR_, Nat.reducePow, Int.reducePow, Nat.reduceAdd, Nat.reduceSub, Nat.reduceMul, Int.reduceToNat, Nat.reduceLeDiff, Nat.reduceEqDiff, Nat.reduceLT, Nat.reduceGT, Int.reduceGT, Int.reduceGE, Int.reduceLT, Int.reduceLE, Int.reduceEq, Int.reduceAdd, Int.reduceSub, Int.reduceNeg, reduceCtorEq, if_true, if_false, ite_true, ite_false, ne_eq, eq_self, OPK_, KEY_, WR_, CHK_, Nat.reduceBEq, K4_, K5_, K6_, K7_, e2, hw]
        exact ih (i + 1) _ _ _ (by omega) ⟨by omega, hinv⟩ rfl (by rw [app_take_add]; rfl) rfl
  · have hlt : ¬ ((i : Int) < (l.length : Int)) := by omega
    rw [List.drop_of_length_le (by omega)] at hinv
    rw [hinv] at hK
    simp only [RUN_, U_hist_alone, FR_, Nat.reducePow, Int.reducePow, Nat.reduceAdd, Nat.reduceSub, Nat.reduceMul, Int.reduceToNat, Nat.reduceLeDiff, Nat.reduceEqDiff, Nat.reduceLT, Nat.reduceGT, Int.reduceGT, Int.reduceGE, Int.reduceLT, Int.reduceLE, Int.reduceEq, Int.reduceAdd, Int.reduceSub, Int.reduceNeg, reduceCtorEq, if_true, if_false, ite_true, ite_false, ne_eq, eq_self, OPK_, KEY_, WR_, CHK_, Nat.reduceBEq, K4_, K5_, K6_, K7_, hlt]
    exact hK

def pairIn (p : Tx → Tx → Bool) (x : Tx) : List Tx → Nat → Option Nat
  | [], _ => none
  | y :: l, k => if wroteT x = true ∧ wroteT y = true ∧ p x y = true then some k else pairIn p x l (k + 1)
def pairF (p : Tx → Tx → Bool) : List Tx → Nat → Option (Nat × Nat)
  | [], _ => none
  | x :: l, i => match pairIn p x l (i + 1) with
    | some k => some (i, k)
    | none => pairF p l (i + 1)
def pairA (kind : Int) : Option (Nat × Nat) → AV
  | some (i, k) => .tup [fltA kind i k, .bool true]
  | none => .tup [fltA 0 0 0, .bool false]
def PairS (C : CallW) (f : FuncId) : Prop := ∀ (l : List Tx) (kind : Int) (g : FuncId) (p : Tx → Tx → Bool) S H (K : AV → St → Prop), l.length < 9223372036854775807 → okT l → TwoT p C g → (∀ G, K (pairA kind (pairF p l 0)) ⟨S, H ++ G⟩) → C (.fn f) [lstT l, .s (.int .i64 kind), .fn (.func g) [] []] ⟨S, H⟩ K

set_option maxHeartbeats 8000000 in
theorem pair_spec {C : CallW} (hC : LeC C C) (P : Program) {c : Nat → FuncId} (h0 : WroteS C (c 0)) : ∀ (l : List Tx) (kind : Int) (g : FuncId) (p : Tx → Tx → Bool) S H (K : AV → St → Prop), l.length < 9223372036854775807 → okT l → TwoT p C g → (∀ G, K (pairA kind (pairF p l 0)) ⟨S, H ++ G⟩) →
    runL C P (C_hist_pair c) [lstT l, .s (.int .i64 kind), .fn (.func g) [] []] ⟨S, H⟩ K := by
  intro l kind g p S H K hl hok hg hK
  simp only [lstT, C_hist_pair, RUN_, U_hist_pair, FR_, Nat.reducePow, Int.reducePow, Nat.reduceAdd, Nat.reduceSub, Nat.reduceMul, Int.reduceToNat, Nat.reduceLeDiff, Nat.reduceEqDiff, Nat.reduceLT, Nat.reduceGT, Int.reduceGT, Int.reduceGE, Int.reduceLT, Int.reduceLE, Int.reduceEq, Int.reduceAdd, Int.reduceSub, Int.reduceNeg, reduceCtorEq, if_true, if_false, ite_true, ite_false, ne_eq, eq_self, OPK_, KEY_, WR_, CHK_, Nat.reduceBEq, K4_, K5_, K6_, K7_]
  refine loop_rule hC (α := Nat × List HObj) (fun a => l.length - a.1) (fun a => [.list .sh 8 (l.map txA), .s (.int .i64 kind), .fn (.func g) [] [], .undef, .undef, .undef, .ptr (.stk S.length) 0, .undef, .undef, .undef, .undef, .list .sh 8 (l.map txA), .s (.int .i64 l.length), .s (.int .i64 a.1), .undef, .undef, .undef, .undef, .undef, .undef, .undef, .undef, .undef, .undef, .undef, .undef, .undef, .undef, .undef, .undef, .undef, .undef, .undef, .undef, .undef, .undef, .undef, .undef, .undef, .undef, .undef, .undef, .undef, .undef, .undef, .undef, .undef, .undef, .undef, .undef]) (fun a => S ++ [[.i 0, .i 0, .i 0]]) (fun a => H ++ a.2) (fun a => a.1 ≤ l.length ∧ pairF p l 0 = pairF p (l.drop a.1) a.1) (0, []) ⟨by simp, rfl⟩ rfl (by rw [app_take_add]; rfl) (by simp) (fun a _ => by simp [AV.under, AV.under.go]) ?_
  rintro ⟨i, G⟩ ⟨hi, hinv⟩ ih
  dsimp only at hi hinv ih ⊢
  by_cases h16 : i < l.length
  · have hlt : ((i : Int) < (l.length : Int)) := by omega
    have hw : IntKind.i64.wrap ((i : Int) + 1) = (i : Int) + 1 := wrap_i64 (by omega) (by omega)
    rw [List.drop_eq_getElem_cons h16, pairF] at hinv
    have h0' := h0 l[i]
    unfold txc at h0'
    simp only [RUN_, U_hist_pair, FR_, Nat.reducePow, Int.reducePow, Nat.reduceAdd, Nat.reduceSub, Nat.reduceMul, Int.reduceToNat, Nat.reduceLeDiff, Nat.reduceEqDiff, Nat.reduceLT, Nat.reduceGT, Int.reduceGT, Int.reduceGE, Int.reduceLT, Int.reduceLE, Int.reduceEq, Int.reduceAdd, Int.reduceSub, Int.reduceNeg, reduceCtorEq, if_true, if_false, ite_true, ite_false, ne_eq, eq_self, OPK_, KEY_, WR_, CHK_, Nat.reduceBEq, K4_, K5_, K6_, K7_, hlt, h16, hw]
    refine loop_rule hC (α := Nat × List HObj) (fun a => l.length - a.1) (fun a => [.list .sh 8 (l.map txA), .s (.int .i64 kind), .fn (.func g) [] [], .undef, .undef, .undef, .ptr (.stk S.length) 0, .undef, .s (.int .i64 i), .ptr (.stk (S.length + 1)) 0, .s (.int .i64 a.1), .list .sh 8 (l.map txA), .s (.int .i64 l.length), .s (.int .i64 i), .undef, .undef, .undef, .undef, .undef, .undef, .undef, .undef, .undef, .undef, .undef, .undef, .undef, .undef, .undef, .undef, .undef, .undef, .undef, .undef, .undef, .undef, .undef, .undef, .undef, .undef, .undef, .undef, .undef, .undef, .undef, .undef, .undef, .undef, .undef, .undef]) (fun a => S ++ [[.i 0, .i 0, .i 0], txc l[i]]) (fun a => H ++ a.2) (fun a => i + 1 ≤ a.1 ∧ a.1 ≤ l.length ∧ pairIn p l[i] (l.drop (i + 1)) (i + 1) = pairIn p l[i] (l.drop a.1) a.1) (i + 1, G) ⟨by simp, by simp; omega, rfl⟩ rfl (by rw [app_take_add]; rfl) rfl (fun a _ => by simp [AV.under, AV.under.go]) ?_
    rintro ⟨k, G1⟩ ⟨hk0, hk, hkinv⟩ ih2
    dsimp only at hk0 hk hkinv ih2 ⊢
    by_cases h17 : k < l.length
    · have hltk : ((k : Int) < (l.length : Int)) := by omega
      have hwk : IntKind.i64.wrap ((k : Int) + 1) = (k : Int) + 1 := wrap_i64 (by omega) (by omega)
      rw [List.drop_eq_getElem_cons h17, pairIn] at hkinv
      have h0k := h0 l[k]
      unfold txc at h0k
      simp only [RUN_, U_hist_pair, FR_, Nat.reducePow, Int.reducePow, Nat.reduceAdd, Nat.reduceSub, Nat.reduceMul, Int.reduceToNat, Nat.reduceLeDiff, Nat.reduceEqDiff, Nat.reduceLT, Nat.reduceGT, Int.reduceGT, Int.reduceGE, Int.reduceLT, Int.reduceLE, Int.reduceEq, Int.reduceAdd, Int.reduceSub, Int.reduceNeg, reduceCtorEq, if_true, if_false, ite_true, ite_false, ne_eq, eq_self, OPK_, KEY_, WR_, CHK_, Nat.reduceBEq, K4_, K5_, K6_, K7_, hltk, h17]
      refine h0' _ _ _ ?_
      cases e1 : wroteT l[i] with
      | false =>
        rw [e1, if_neg (by simp)] at hkinv
        simp only [RUN_, U_hist_pair, FR_, Nat.reducePow, Int.reducePow, Nat.reduceAdd, Nat.reduceSub, Nat.reduceMul, Int.reduceToNat, Nat.reduceLeDiff, Nat.reduceEqDiff, Nat.reduceLT, Nat.reduceGT, Int.reduceGT, Int.reduceGE, Int.reduceLT, Int.reduceLE, Int.reduceEq, Int.reduceAdd, Int.reduceSub, Int.reduceNeg, reduceCtorEq, if_true, if_false, ite_true, ite_false, ne_eq, eq_self, OPK_, KEY_, WR_, CHK_, Nat.reduceBEq, K4_, K5_, K6_, K7_, hwk]
        exact ih2 (k + 1, G1) _ _ _ (by simp; omega) ⟨by simp; omega, by simp; omega, hkinv⟩ rfl (by rw [app_take_add]; rfl) rfl
      | true =>
        simp only [RUN_, U_hist_pair, FR_, Nat.reducePow, Int.reducePow, Nat.reduceAdd, Nat.reduceSub, Nat.reduceMul, Int.reduceToNat, Nat.reduceLeDiff, Nat.reduceEqDiff, Nat.reduceLT, Nat.reduceGT, Int.reduceGT, Int.reduceGE, Int.reduceLT, Int.reduceLE, Int.reduceEq, Int.reduceAdd, Int.reduceSub, Int.reduceNeg, reduceCtorEq, if_true, if_false, ite_true, ite_false, ne_eq, eq_self, OPK_, KEY_, WR_, CHK_, Nat.reduceBEq, K4_, K5_, K6_, K7_, h17]
        refine h0k _ _ _ ?_
        cases e2 : wroteT l[k] with
        | false =>
          rw [e2, if_neg (by simp)] at hkinv
          simp only [RUN_, U_hist_pair, FR_, Nat.reducePow, Int.reducePow, Nat.reduceAdd, Nat.reduceSub, Nat.reduceMul, Int.reduceToNat, Nat.reduceLeDiff, Nat.reduceEqDiff, Nat.reduceLT, Nat.reduceGT, Int.reduceGT, Int.reduceGE, Int.reduceLT, Int.reduceLE, Int.reduceEq, Int.reduceAdd, Int.reduceSub, Int.reduceNeg, reduceCtorEq, if_true, if_false, ite_true, ite_false, ne_eq, eq_self, OPK_, KEY_, WR_, CHK_, Nat.reduceBEq, K4_, K5_, K6_, K7_, hwk]
          exact ih2 (k + 1, G1) _ _ _ (by simp; omega) ⟨by simp; omega, by simp; omega, hkinv⟩ rfl (by rw [app_take_add]; rfl) rfl
        | true =>
          have hg' := hg l[i] l[k]
          unfold txc at hg'
          simp only [RUN_, U_hist_pair, FR_, Nat.reducePow, Int.reducePow, Nat.reduceAdd, Nat.reduceSub, Nat.reduceMul, Int.reduceToNat, Nat.reduceLeDiff, Nat.reduceEqDiff, Nat.reduceLT, Nat.reduceGT, Int.reduceGT, Int.reduceGE, Int.reduceLT, Int.reduceLE, Int.reduceEq, Int.reduceAdd, Int.reduceSub, Int.reduceNeg, reduceCtorEq, if_true, if_false, ite_true, ite_false, ne_eq, eq_self, OPK_, KEY_, WR_, CHK_, Nat.reduceBEq, K4_, K5_, K6_, K7_, h17]
          refine hg' _ _ _ (hok _ (List.getElem_mem h16)).1 (hok _ (List.getElem_mem h17)).1 fun G2 => ?_
          cases e3 : p l[i] l[k] with
          | false =>
            rw [e3, if_neg (by simp)] at hkinv
            simp only [RUN_, U_hist_pair, FR_, Nat.reducePow, Int.reducePow, Nat.reduceAdd, Nat.reduceSub, Nat.reduceMul, Int.reduceToNat, Nat.reduceLeDiff, Nat.reduceEqDiff, Nat.reduceLT, Nat.reduceGT, Int.reduceGT, Int.reduceGE, Int.reduceLT, Int.reduceLE, Int.reduceEq, Int.reduceAdd, Int.reduceSub, Int.reduceNeg, reduceCtorEq, if_true, if_false, ite_true, ite_false, ne_eq, eq_self, OPK_, KEY_, WR_, CHK_, Nat.reduceBEq, K4_, K5_, K6_, K7_, hwk]
            exact ih2 (k + 1, G1 ++ G2) _ _ _ (by simp; omega) ⟨by simp; omega, by simp; omega, hkinv⟩ rfl (by rw [app_take_add]; rfl) (by simp)
          | true =>
            rw [if_pos ⟨e1, e2, e3⟩] at hkinv
            rw [hkinv] at hinv
            rw [hinv] at hK
            simp only [RUN_, U_hist_pair, FR_, Nat.reducePow, Int.reducePow, Nat.reduceAdd, Nat.reduceSub, Nat.reduceMul, Int.reduceToNat, Nat.reduceLeDiff, Nat.reduceEqDiff, Nat.reduceLT, Nat.reduceGT, Int.reduceGT, Int.reduceGE, Int.reduceLT, Int.reduceLE, Int.reduceEq, Int.reduceAdd, Int.reduceSub, Int.reduceNeg, reduceCtorEq, if_true, if_false, ite_true, ite_false, ne_eq, eq_self, OPK_, KEY_, WR_, CHK_, Nat.reduceBEq, K4_, K5_, K6_, K7_]
            exact hK _
    · have hltk : ¬ ((k : Int) < (l.length : Int)) := by omega
      rw [show l.drop k = [] from List.drop_of_length_le (by omega)] at hkinv
      rw [hkinv, pairIn] at hinv
      simp only [RUN_, U_hist_pair, FR_, Nat.reducePow, Int.reducePow, Nat.reduceAdd, Nat.reduceSub, Nat.reduceMul, Int.reduceToNat, Nat.reduceLeDiff, Nat.reduceEqDiff, Nat.reduceLT, Nat.reduceGT, Int.reduceGT, Int.reduceGE, Int.reduceLT, Int.reduceLE, Int.reduceEq, Int.reduceAdd, Int.reduceSub, Int.reduceNeg, reduceCtorEq, if_true, if_false, ite_true, ite_false, ne_eq, eq_self, OPK_, KEY_, WR_, CHK_, Nat.reduceBEq, K4_, K5_, K6_, K7_, hltk, hw]
      exact ih (i + 1, G1) _ _ _ (by simp; omega) ⟨by simp; omega, hinv⟩ rfl (by rw [app_take_add]; rfl) rfl
  · have hlt : ¬ ((i : Int) < (l.length : Int)) := by omega
    rw [List.drop_of_length_le (by omega)] at hinv
    rw [hinv] at hK
    simp only [RUN_, U_hist_pair, FR_, Nat.reducePow, Int.reducePow, Nat.reduceAdd, Nat.reduceSub, Nat.reduceMul, Int.reduceToNat, Nat.reduceLeDiff, Nat.reduceEqDiff, Nat.reduceLT, Nat.reduceGT, Int.reduceGT, Int.reduceGE, Int.reduceLT, Int.reduceLE, Int.reduceEq, Int.reduceAdd, Int.reduceSub, Int.reduceNeg, reduceCtorEq, if_true, if_false, ite_true, ite_false, ne_eq, eq_self, OPK_, KEY_, WR_, CHK_, Nat.reduceBEq, K4_, K5_, K6_, K7_, hlt]
    exact hK _
end Go.AM
