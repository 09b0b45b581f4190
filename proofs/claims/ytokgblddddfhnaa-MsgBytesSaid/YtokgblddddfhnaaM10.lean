import Derived.Test.YtokgblddddfhnaaM9
set_option linter.unusedSimpArgs false
set_option linter.unusedVariables false
namespace Go.AM
open Go
abbrev zs (d : Nat) (o : LOp) : LStep := ⟨some d, none, o⟩
abbrev zt (d g : Nat) (o : LOp) : LStep := ⟨some d, some (g, true), o⟩
abbrev zf (d g : Nat) (o : LOp) : LStep := ⟨some d, some (g, false), o⟩
abbrev zn (o : LOp) : LStep := ⟨none, none, o⟩
abbrev zi (n : Int) : Opd := .c (.int .i64 n)
abbrev zT : Opd := .c (.bool true)
abbrev zF : Opd := .c (.bool false)
theorem zc {a b : Prop} (h : a) (h2 : b) : a ∧ b := ⟨h, h2⟩
def zm : Bool → List Nat → List Bool
  | _, [] => []
  | b, n :: l => List.replicate n b ++ zm (!b) l
inductive Item where
  | c (x : LCode)
  | blk (id : Nat)
  | lp (mask : List Bool) (b : LCode) (n0 : Nat)
def contK (C : CallW) (P : Program) (rd : Bool) : List Item → KC → KC
  | [], K => K
  | .c x :: is, K => roundK (fun fr σ => execL C P rd x fr σ (contK C P rd is K)) (contK C P rd is K)
  | .blk id :: is, K => blockK id (contK C P rd is K)
  | .lp mask b n0 :: is, K => roundK (fun fr σ => loopW (execL C P rd b) mask n0 fr σ (contK C P rd is K)) (contK C P rd is K)
section
variable {C : CallW} {P : Program} {rd : Bool}
def runC (C : CallW) (P : Program) (rd : Bool) (x : LCode) (is : List Item) (fr : Fr) (σ : St) (K : KC) : Prop := execL C P rd x fr σ (contK C P rd is K)
def nxt (C : CallW) (P : Program) (rd : Bool) (is : List Item) (fr : Fr) (σ : St) (K : KC) : Prop := contK C P rd is K .normal fr σ
def ext (C : CallW) (P : Program) (rd : Bool) (id : Nat) (is : List Item) (fr : Fr) (σ : St) (K : KC) : Prop := contK C P rd is K (.exit id) fr σ
def rtn (C : CallW) (P : Program) (rd : Bool) (is : List Item) (fr : Fr) (σ : St) (K : KC) : Prop := contK C P rd is K .ret fr σ
def runS (C : CallW) (P : Program) (rd : Bool) (l : List LStep) (is : List Item) (fr : Fr) (σ : St) (K : KC) : Prop := seqL C l fr σ (contK C P rd is K .normal)
def runT (C : CallW) (P : Program) (rd : Bool) (t : LT) (chk : List LChk) (is : List Item) (fr : Fr) (σ : St) (K : KC) : Prop := planL C t fr σ chk (contK C P rd is K .normal)
def runLp (C : CallW) (P : Program) (rd : Bool) (mask : List Bool) (b : LCode) (n0 : Nat) (is : List Item) (fr : Fr) (σ : St) (K : KC) : Prop := loopW (execL C P rd b) mask n0 fr σ (contK C P rd is K)
def cnd (C : CallW) (P : Program) (rd : Bool) (v : AV) (a b : LCode) (is : List Item) (fr : Fr) (σ : St) (K : KC) : Prop :=
  match v with
  | .s (.bool x) => (x = true → runC C P rd a is fr σ K) ∧ (x = false → runC C P rd b is fr σ K)
  | _ => False
theorem runC_skip {is fr σ K} : runC C P rd .skip is fr σ K = nxt C P rd is fr σ K := (rfl)
theorem runC_sq {l is fr σ K} : runC C P rd (.sq l) is fr σ K = runS C P rd l is fr σ K := (rfl)
theorem runC_tree {t is fr σ K} : runC C P rd (.tree t) is fr σ K = runT C P rd t [] is fr σ K := (rfl)
theorem runC_seq {a b is fr σ K} : runC C P rd (.seq a b) is fr σ K = runC C P rd a (.c b :: is) fr σ K := (rfl)
theorem runC_cond {c a b is fr σ K} : runC C P rd (.cond c a b) is fr σ K = cnd C P rd (opL fr c) a b is fr σ K := by
  show (match opL fr c with | .s (.bool x) => _ | _ => False) = _
  rfl
theorem runC_block {id b is fr σ K} : runC C P rd (.block id b) is fr σ K = runC C P rd b (.blk id :: is) fr σ K := (rfl)
theorem runC_loop {m b is fr S H K} : runC C P rd (.loop m b) is fr ⟨S, H⟩ K = runLp C P rd m b S.length is fr ⟨S, H⟩ K := (rfl)
theorem runC_exit {id is fr σ K} : runC C P rd (.exit id) is fr σ K = ext C P rd id is fr σ K := (rfl)
theorem runC_ret {is fr σ K} : runC C P rd .ret is fr σ K = rtn C P rd is fr σ K := (rfl)
theorem cnd_true {a b is fr σ K} : cnd C P rd (.s (.bool true)) a b is fr σ K = runC C P rd a is fr σ K := by simp [cnd]
theorem cnd_false {a b is fr σ K} : cnd C P rd (.s (.bool false)) a b is fr σ K = runC C P rd b is fr σ K := by simp [cnd]
theorem nxt_nil {fr σ K} : nxt C P rd [] fr σ K = K .normal fr σ := (rfl)
theorem nxt_c {x is fr σ K} : nxt C P rd (.c x :: is) fr σ K = runC C P rd x is fr σ K := (rfl)
theorem nxt_blk {id is fr σ K} : nxt C P rd (.blk id :: is) fr σ K = nxt C P rd is fr σ K := (rfl)
theorem nxt_lp {m b n0 is fr σ K} : nxt C P rd (.lp m b n0 :: is) fr σ K = runLp C P rd m b n0 is fr σ K := (rfl)
theorem ext_nil {id fr σ K} : ext C P rd id [] fr σ K = K (.exit id) fr σ := (rfl)
theorem ext_c {id x is fr σ K} : ext C P rd id (.c x :: is) fr σ K = ext C P rd id is fr σ K := (rfl)
theorem ext_blk {id id' is fr σ K} : ext C P rd id (.blk id' :: is) fr σ K = if id = id' then nxt C P rd is fr σ K else ext C P rd id is fr σ K := (rfl)
theorem ext_lp {id m b n0 is fr σ K} : ext C P rd id (.lp m b n0 :: is) fr σ K = ext C P rd id is fr σ K := (rfl)
theorem rtn_nil {fr σ K} : rtn C P rd [] fr σ K = K .ret fr σ := (rfl)
theorem rtn_c {x is fr σ K} : rtn C P rd (.c x :: is) fr σ K = rtn C P rd is fr σ K := (rfl)
theorem rtn_blk {id is fr σ K} : rtn C P rd (.blk id :: is) fr σ K = rtn C P rd is fr σ K := (rfl)
theorem rtn_lp {m b n0 is fr σ K} : rtn C P rd (.lp m b n0 :: is) fr σ K = rtn C P rd is fr σ K := (rfl)
def thn (C : CallW) (P : Program) (rd : Bool) (d : Option Nat) (l : List LStep) (is : List Item) (K : KC) : Option (AV × Fr × St) → Prop
  | some (v, fr, σ) => runS C P rd l is (putA d v fr) σ K
  | none => False
def bak (C : CallW) (P : Program) (rd : Bool) (d : Option Nat) (l : List LStep) (is : List Item) (K : KC) (fr : Fr) (v : AV) (σ : St) : Prop := runS C P rd l is (putA d v fr) σ K
def call (C : CallW) (P : Program) (rd : Bool) (d : Option Nat) (l : List LStep) (is : List Item) (K : KC) (σ : St) (g : AV) (r : List AV × Fr) : Prop :=
  match g with
  | .fn (.func h) first captured => C (.fn h) (first ++ r.1 ++ captured) σ (bak C P rd d l is K r.2)
  | .yield h => C (.yield h) r.1 σ (bak C P rd d l is K r.2)
  | _ => False
def mayb : LOp → Fr → Bool
  | .bin op (.ref 1) x y, fr => isEq op && maybeNil (seL fr x) (seL fr y)
  | _, _ => false
def mb (C : CallW) (P : Program) (rd : Bool) (d : Option Nat) (l : List LStep) (is : List Item) (K : KC) (fr : Fr) (σ : St) (q : Prop) : Bool → Prop
  | true => ∀ b, runS C P rd l is (putA d (.bool b) fr) σ K
  | false => q
def opS (C : CallW) (P : Program) (rd : Bool) (d : Option Nat) (op : LOp) (l : List LStep) (is : List Item) (fr : Fr) (σ : St) (K : KC) : Prop :=
  mb C P rd d l is K fr σ (doL C op (settleL fr (settledL op)) σ fun v fr' σ' => runS C P rd l is (putA d v fr') σ' K) (mayb op fr)
def grd (C : CallW) (P : Program) (rd : Bool) (d : Option Nat) (op : LOp) (l : List LStep) (is : List Item) (fr : Fr) (σ : St) (K : KC) : Option Bool → Prop
  | some g => (g = true → opS C P rd d op l is fr σ K) ∧ (g = false → runS C P rd l is (putA d (.tup []) fr) σ K)
  | none => False
theorem runS_nil {is fr σ K} : runS C P rd [] is fr σ K = nxt C P rd is fr σ K := (rfl)
theorem runS_op {d op l is fr σ K} : runS C P rd (⟨d, none, op⟩ :: l) is fr σ K = opS C P rd d op l is fr σ K := by
  have e : maybeS ⟨d, none, op⟩ fr = mayb op fr := by
    unfold maybeS mayb
    split
    · rename_i h; dsimp only at h; subst h; simp [guardL]
    · rename_i h
      split
      · rename_i h'; exact (h _ _ _ rfl).elim
      · rfl
  simp only [runS, seqL, opS, e]
  cases mayb op fr with
  | true => rfl
  | false => simp only [stepL, guardL, mb, true_implies, reduceCtorEq, false_implies, and_true, runS]
theorem runS_grd {d j w op l is fr σ K} : runS C P rd (⟨d, some (j, w), op⟩ :: l) is fr σ K = grd C P rd d op l is fr σ K (guardL fr (some (j, w))) := by
  have e : maybeS ⟨d, some (j, w), op⟩ fr = (mayb op fr && (guardL fr (some (j, w))) == some true) := by
    unfold maybeS mayb
    split
    · rename_i h; dsimp only at h; subst h
      cases hg : guardL fr (some (j, w)) with
      | none => simp
      | some b => cases b <;> simp
    · rename_i h
      split
      · rename_i h'; exact (h _ _ _ rfl).elim
      · rfl
  simp only [runS, seqL, e]
  cases hg : guardL fr (some (j, w)) with
  | none =>
    rw [show (mayb op fr && (none : Option Bool) == some true) = false by simp]
    simp only [stepL, hg, grd]
  | some b =>
    cases b with
    | false =>
      rw [show (mayb op fr && some false == some true) = false by simp]
      simp only [stepL, hg, grd, reduceCtorEq, false_implies, true_implies, true_and, runS]
    | true =>
      rw [show (mayb op fr && some true == some true) = mayb op fr by simp]
      simp only [grd, reduceCtorEq, false_implies, true_implies, and_true, opS]
      cases mayb op fr with
      | true => rfl
      | false => simp only [stepL, hg, mb, true_implies, reduceCtorEq, false_implies, and_true, runS]
theorem grd_true {d op l is fr σ K} : grd C P rd d op l is fr σ K (some true) = opS C P rd d op l is fr σ K := by simp [grd]
theorem grd_false {d op l is fr σ K} : grd C P rd d op l is fr σ K (some false) = runS C P rd l is (putA d (.tup []) fr) σ K := by simp [grd]
theorem opS_plain {d op l is fr σ K} (hp : op.plain = true) (hm : mayb op fr = false) : opS C P rd d op l is fr σ K = thn C P rd d l is K (evL op (settleL fr (settledL op)) σ) := by
  unfold opS
  rw [doL_plain hp, hm]
  show (match evL op (settleL fr (settledL op)) σ with | some r => _ | none => False) = _
  cases evL op (settleL fr (settledL op)) σ <;> rfl
theorem thn_some {d l is K v fr σ} : thn C P rd d l is K (some (v, fr, σ)) = runS C P rd l is (putA d v fr) σ K := (rfl)
theorem opS_call {d g args l is fr σ K} : opS C P rd d (.call g args) l is fr σ K = call C P rd d l is K σ (seL fr g) (tkAllL fr args) := by
  unfold opS call
  rw [show mayb (.call g args) fr = false from rfl]
  simp only [mb]
  unfold doL
  simp only [settledL, settleL]
  cases seL fr g with
  | fn fn a c => cases fn <;> rfl
  | _ => rfl
theorem call_fn {d l is K σ h a c vs fr} : call C P rd d l is K σ (.fn (.func h) a c) (vs, fr) = C (.fn h) (a ++ vs ++ c) σ (bak C P rd d l is K fr) := (rfl)
theorem call_yield {d l is K σ h vs fr} : call C P rd d l is K σ (.yield h) (vs, fr) = C (.yield h) vs σ (bak C P rd d l is K fr) := (rfl)
theorem bak_eq {d l is K fr v σ} : bak C P rd d l is K fr v σ = runS C P rd l is (putA d v fr) σ K := (rfl)
theorem e_mv {d tk x l is fr σ K} : opS C P rd d (.mv tk x) l is fr σ K = runS C P rd l is (putA d (tkL tk fr x).1 (tkL tk fr x).2) σ K := (rfl)
theorem e_pick {d c a b l is fr σ K} : opS C P rd d (.pick c a b) l is fr σ K = thn C P rd d l is K (evL (.pick c a b) fr σ) := opS_plain rfl rfl
theorem e_alloc {d hp z l is fr σ K} : opS C P rd d (.alloc hp z) l is fr σ K = thn C P rd d l is K ((newBox hp z σ).map fun r => (.ptr r.1 0, fr, r.2)) := opS_plain rfl rfl
theorem e_box {d tk hp x l is fr σ K} : opS C P rd d (.box tk hp x) l is fr σ K = thn C P rd d l is K (evL (.box tk hp x) fr σ) := opS_plain rfl rfl
theorem e_build {d z ps l is fr σ K} : opS C P rd d (.build z ps) l is fr σ K = thn C P rd d l is K (evL (.build z ps) (settleL fr (ps.map (·.2.2))) σ) := opS_plain rfl rfl
theorem e_bsl {d e n ps l is fr σ K} : opS C P rd d (.bsl e n ps) l is fr σ K = thn C P rd d l is K (evL (.bsl e n ps) (settleL fr (ps.map (·.2))) σ) := opS_plain rfl rfl
theorem e_loadA {d n x l is fr σ K} : opS C P rd d (.loadA n x) l is fr σ K = thn C P rd d l is K ((readA σ (seL fr x) n).map fun v => (v, fr, σ)) := opS_plain rfl rfl
theorem e_load1 {d tk x l is fr σ K} : opS C P rd d (.load1 tk x) l is fr σ K = thn C P rd d l is K ((load1L tk (seL fr x) σ).map fun r => (r.1, fr, r.2)) := opS_plain rfl rfl
theorem e_store {d n p x l is fr σ K} : opS C P rd d (.store n p x) l is fr σ K = thn C P rd d l is K ((storeL n (seL (tkL true fr x).2 p) (tkL true fr x).1.calm σ).map fun σ => (.undef, (tkL true fr x).2, σ)) := opS_plain rfl rfl
theorem e_stu {d p x l is fr σ K} : opS C P rd d (.stu p x) l is fr σ K = thn C P rd d l is K ((storeUL (seL (tkL true fr x).2 p) (tkL true fr x).1 σ).map fun σ => (.undef, (tkL true fr x).2, σ)) := opS_plain rfl rfl
theorem e_nilc {d x l is fr σ K} : opS C P rd d (.nilc x) l is fr σ K = thn C P rd d l is K (evL (.nilc x) fr σ) := opS_plain rfl rfl
theorem e_bin {d op k x y l is fr σ K} : opS C P rd d (.bin op k x y) l is fr σ K = mb C P rd d l is K fr σ (thn C P rd d l is K ((binL op k (seL fr x) (seL fr y)).map fun v => (v, fr, σ))) (mayb (.bin op k x y) fr) := by
  cases hm : mayb (.bin op k x y) fr with
  | false => exact opS_plain rfl hm
  | true => unfold opS; rw [hm]; rfl
theorem mb_t {d l is K fr σ q} : mb C P rd d l is K fr σ q true = ∀ b, runS C P rd l is (putA d (.bool b) fr) σ K := (rfl)
theorem mb_f {d l is K fr σ q} : mb C P rd d l is K fr σ q false = q := (rfl)
theorem mayb_sc {op x y fr} : mayb (.bin op .sc x y) fr = false := (rfl)
theorem mayb_bl {op x y fr} : mayb (.bin op .bl x y) fr = false := (rfl)
theorem mayb_leaf {op ls x y fr} : mayb (.bin op (.leaf ls) x y) fr = false := (rfl)
theorem mayb_r0 {op x y fr} : mayb (.bin op (.ref 0) x y) fr = false := (rfl)
theorem mayb_r1 {op x y fr} : mayb (.bin op (.ref 1) x y) fr = (isEq op && maybeNil (seL fr x) (seL fr y)) := (rfl)
theorem mayb_r2 {op x y fr} : mayb (.bin op (.ref 2) x y) fr = false := (rfl)
theorem mayb_r3 {op x y fr} : mayb (.bin op (.ref 3) x y) fr = false := (rfl)
theorem e_un {d op x l is fr σ K} : opS C P rd d (.un op x) l is fr σ K = thn C P rd d l is K ((unL op (seL fr x)).map fun v => (v, fr, σ)) := opS_plain rfl rfl
theorem e_conv {d k x l is fr σ K} : opS C P rd d (.conv k x) l is fr σ K = thn C P rd d l is K ((convL k (seL (settleL fr [x]) x) σ).map fun v => (v, settleL fr [x], σ)) := opS_plain rfl rfl
theorem e_mkfn {d f a b l is fr σ K} : opS C P rd d (.mkfn f a b) l is fr σ K = runS C P rd l is (putA d (.fn (.func f) (a.map (seL fr)) (b.map (seL fr))) fr) σ K := (rfl)
theorem e_mkmap {d r l is fr σ K} : opS C P rd d (.mkmap r) l is fr σ K = thn C P rd d l is K (evL (.mkmap r) fr σ) := opS_plain rfl rfl
theorem e_mksl {d tk hp e a c l is fr σ K} : opS C P rd d (.mksl tk hp e a c) l is fr σ K = thn C P rd d l is K ((mkslL tk hp e (seL fr a) (seL fr c) σ).map fun r => (r.1, fr, r.2)) := opS_plain rfl rfl
theorem e_slc {d k x lo hi mx l is fr σ K} : opS C P rd d (.slc k x lo hi mx) l is fr σ K = thn C P rd d l is K ((sliceL k (seL (settleL fr [x]) x) (lo.map (seL (settleL fr [x]))) (hi.map (seL (settleL fr [x]))) (mx.map (seL (settleL fr [x])))).map fun v => (v, settleL fr [x], σ)) := opS_plain rfl rfl
theorem e_shift {d o x l is fr σ K} : opS C P rd d (.shift o x) l is fr σ K = thn C P rd d l is K ((shift (seL fr x) o).map fun v => (v, fr, σ)) := opS_plain rfl rfl
theorem e_part {d ag o x l is fr σ K} : opS C P rd d (.part ag o x) l is fr σ K = thn C P rd d l is K (evL (.part ag o x) fr σ) := opS_plain rfl rfl
theorem e_ixa {d k x i l is fr σ K} : opS C P rd d (.ixa k x i) l is fr σ K = thn C P rd d l is K ((indexAddrL k (seL (settleL fr [x]) x) (seL (settleL fr [x]) i)).map fun v => (v, settleL fr [x], σ)) := opS_plain rfl rfl
theorem e_ixs {d x i l is fr σ K} : opS C P rd d (.ixs x i) l is fr σ K = thn C P rd d l is K (evL (.ixs x i) fr σ) := opS_plain rfl rfl
theorem e_ixv {d n c ag x i l is fr σ K} : opS C P rd d (.ixv n c ag x i) l is fr σ K = thn C P rd d l is K (evL (.ixv n c ag x i) fr σ) := opS_plain rfl rfl
theorem e_look {d kk z ok m k l is fr σ K} : opS C P rd d (.look kk z ok m k) l is fr σ K = thn C P rd d l is K ((lookupL kk z ok (seL fr m) (seL fr k) σ).map fun v => (v, fr, σ)) := opS_plain rfl rfl
theorem e_upd {d kk m k v l is fr σ K} : opS C P rd d (.upd kk m k v) l is fr σ K = thn C P rd d l is K (evL (.upd kk m k v) (settleL fr [v]) σ) := opS_plain rfl rfl
theorem e_ext {d x i l is fr σ K} : opS C P rd d (.ext x i) l is fr σ K = thn C P rd d l is K (evL (.ext x i) fr σ) := opS_plain rfl rfl
theorem e_len {d k x l is fr σ K} : opS C P rd d (.len k x) l is fr σ K = thn C P rd d l is K ((lenL k (seL (settleL fr [x]) x) σ).map fun (n : Nat) => (AV.i n, settleL fr [x], σ)) := opS_plain rfl rfl
theorem e_cap {d x l is fr σ K} : opS C P rd d (.cap x) l is fr σ K = thn C P rd d l is K ((capL (seL (settleL fr [x]) x)).map fun (n : Nat) => (AV.i n, settleL fr [x], σ)) := opS_plain rfl rfl
theorem e_app {d e b s x l is fr σ K} : opS C P rd d (.app e b s x) l is fr σ K = thn C P rd d l is K (evL (.app e b s x) (settleL fr [x]) σ) := opS_plain rfl rfl
theorem e_cpy {d e b s x l is fr σ K} : opS C P rd d (.cpy e b s x) l is fr σ K = thn C P rd d l is K ((copyL e b (seL fr s) (seL fr x) σ).map fun r => (r.1, fr, r.2)) := opS_plain rfl rfl
theorem e_del {d kk m k l is fr σ K} : opS C P rd d (.del kk m k) l is fr σ K = thn C P rd d l is K ((deleteL kk (seL fr m) (seL fr k) σ).map fun σ => (.tup [], fr, σ)) := opS_plain rfl rfl
theorem e_clr {d e x l is fr σ K} : opS C P rd d (.clr e x) l is fr σ K = thn C P rd d l is K ((clearL e (seL fr x) σ).map fun σ => (.tup [], fr, σ)) := opS_plain rfl rfl
theorem e_mn {d x y l is fr σ K} : opS C P rd d (.mn x y) l is fr σ K = thn C P rd d l is K (evL (.mn x y) fr σ) := opS_plain rfl rfl
theorem e_mx {d x y l is fr σ K} : opS C P rd d (.mx x y) l is fr σ K = thn C P rd d l is K (evL (.mx x y) fr σ) := opS_plain rfl rfl
theorem e_thaw {d t l is fr σ K} : opS C P rd d (.thaw t) l is fr σ K = thn C P rd d l is K (AM.thaw fr (.tmp t) σ) := opS_plain rfl rfl
theorem e_frz {d e x l is fr σ K} : opS C P rd d (.frz e x) l is fr σ K = thn C P rd d l is K ((freezeL e (seL fr x) σ).map fun r => (r.1, fr, r.2)) := opS_plain rfl rfl
def rdV (C : CallW) (P : Program) (rd : Bool) (s : LStep) (i : Nat) (ck : Bool) (rest : LT) (chk : List LChk) (is : List Item) (fr : Fr) (σ : St) (K : KC) : Option AV → Prop
  | some v => runT C P rd rest (if (ck && depL fr s.op) = true then ⟨i, s, fr, v⟩ :: chk else chk) is (putA s.dst v fr) σ K
  | none => False
def rdG (C : CallW) (P : Program) (rd : Bool) (s : LStep) (i : Nat) (ck : Bool) (rest : LT) (chk : List LChk) (is : List Item) (fr : Fr) (σ : St) (K : KC) : Option Bool → Prop
  | some g => (g = true → rdV C P rd s i ck rest chk is fr σ K (readL s fr σ)) ∧ (g = false → runT C P rd rest chk is (putA s.dst (.tup []) fr) σ K)
  | none => False
def mvK (C : CallW) (P : Program) (rd : Bool) (drop : List Nat) (chk : List LChk) (rest : LT) (is : List Item) (K : KC) (fr : Fr) (σ : St) : Prop :=
  (chk.filter fun c => !drop.contains c.i).all (fun c => c.ok σ) = true ∧ runT C P rd rest (chk.filter fun c => !drop.contains c.i) is fr σ K
def opT (C : CallW) (P : Program) (rd : Bool) (d : Option Nat) (op : LOp) (drop : List Nat) (chk : List LChk) (rest : LT) (is : List Item) (K : KC) (fr : Fr) (σ : St) : Prop :=
  doL C op (settleL fr (settledL op)) σ fun v fr' σ' => mvK C P rd drop chk rest is K (putA d v fr') σ'
def mvG (C : CallW) (P : Program) (rd : Bool) (d : Option Nat) (op : LOp) (drop : List Nat) (chk : List LChk) (rest : LT) (is : List Item) (K : KC) (fr : Fr) (σ : St) : Option Bool → Prop
  | some g => (g = true → opT C P rd d op drop chk rest is K fr σ) ∧ (g = false → mvK C P rd drop chk rest is K (putA d (.tup []) fr) σ)
  | none => False
def thnT (C : CallW) (P : Program) (rd : Bool) (d : Option Nat) (drop : List Nat) (chk : List LChk) (rest : LT) (is : List Item) (K : KC) : Option (AV × Fr × St) → Prop
  | some (v, fr, σ) => mvK C P rd drop chk rest is K (putA d v fr) σ
  | none => False
def bakT (C : CallW) (P : Program) (rd : Bool) (d : Option Nat) (drop : List Nat) (chk : List LChk) (rest : LT) (is : List Item) (K : KC) (fr : Fr) (v : AV) (σ : St) : Prop := mvK C P rd drop chk rest is K (putA d v fr) σ
def callT (C : CallW) (P : Program) (rd : Bool) (d : Option Nat) (drop : List Nat) (chk : List LChk) (rest : LT) (is : List Item) (K : KC) (σ : St) (g : AV) (r : List AV × Fr) : Prop :=
  match g with
  | .fn (.func h) first captured => C (.fn h) (first ++ r.1 ++ captured) σ (bakT C P rd d drop chk rest is K r.2)
  | .yield h => C (.yield h) r.1 σ (bakT C P rd d drop chk rest is K r.2)
  | _ => False
theorem runT_done {chk is fr σ K} : runT C P rd .done chk is fr σ K = nxt C P rd is fr σ K := (rfl)
theorem runT_stop {chk is fr σ K} : runT C P rd .stop chk is fr σ K = True := (rfl)
theorem runT_rd {s i ck rest chk is fr σ K} : runT C P rd (.rd s i ck rest) chk is fr σ K = rdG C P rd s i ck rest chk is fr σ K (guardL fr s.guard) := by
  show (match guardL fr s.guard with | some g => _ | none => False) = _
  cases guardL fr s.guard with
  | none => rfl
  | some g =>
    show (_ ∧ _) = (_ ∧ _)
    refine congr (congrArg And ?_) rfl
    cases readL s fr σ <;> rfl
theorem rdG_true {s i ck rest chk is fr σ K} : rdG C P rd s i ck rest chk is fr σ K (some true) = rdV C P rd s i ck rest chk is fr σ K (readL s fr σ) := by simp [rdG]
theorem rdG_false {s i ck rest chk is fr σ K} : rdG C P rd s i ck rest chk is fr σ K (some false) = runT C P rd rest chk is (putA s.dst (.tup []) fr) σ K := by simp [rdG]
theorem rdV_some {s i ck rest chk is fr σ K v} : rdV C P rd s i ck rest chk is fr σ K (some v) = runT C P rd rest (if (ck && depL fr s.op) = true then ⟨i, s, fr, v⟩ :: chk else chk) is (putA s.dst v fr) σ K := (rfl)
theorem runT_mv {d g op drop rest alt chk is fr σ K} : runT C P rd (.mv ⟨d, g, op⟩ drop rest alt) chk is fr σ K = (mvG C P rd d op drop chk rest is K fr σ (guardL fr g) ∧ runT C P rd alt chk is fr σ K) := by
  show (stepL C ⟨d, g, op⟩ fr σ _ ∧ _) = _
  refine congr (congrArg And ?_) rfl
  unfold stepL
  cases guardL fr g <;> rfl
theorem mvG_true {d op drop rest chk is fr σ K} : mvG C P rd d op drop chk rest is K fr σ (some true) = opT C P rd d op drop chk rest is K fr σ := by simp [mvG]
theorem mvG_false {d op drop rest chk is fr σ K} : mvG C P rd d op drop chk rest is K fr σ (some false) = mvK C P rd drop chk rest is K (putA d (.tup []) fr) σ := by simp [mvG]
theorem opT_plain {d op drop rest chk is fr σ K} (hp : op.plain = true) : opT C P rd d op drop chk rest is K fr σ = thnT C P rd d drop chk rest is K (evL op (settleL fr (settledL op)) σ) := by
  unfold opT
  rw [doL_plain hp]
  cases evL op (settleL fr (settledL op)) σ <;> rfl
theorem t_mv {d tk x drop rest chk is fr σ K} : opT C P rd d (.mv tk x) drop chk rest is K fr σ = thnT C P rd d drop chk rest is K (evL (.mv tk x) (settleL fr (settledL (.mv tk x))) σ) := opT_plain rfl
theorem t_pick {d c a b drop rest chk is fr σ K} : opT C P rd d (.pick c a b) drop chk rest is K fr σ = thnT C P rd d drop chk rest is K (evL (.pick c a b) (settleL fr (settledL (.pick c a b))) σ) := opT_plain rfl
theorem t_alloc {d hp z drop rest chk is fr σ K} : opT C P rd d (.alloc hp z) drop chk rest is K fr σ = thnT C P rd d drop chk rest is K (evL (.alloc hp z) (settleL fr (settledL (.alloc hp z))) σ) := opT_plain rfl
theorem t_box {d tk hp x drop rest chk is fr σ K} : opT C P rd d (.box tk hp x) drop chk rest is K fr σ = thnT C P rd d drop chk rest is K (evL (.box tk hp x) (settleL fr (settledL (.box tk hp x))) σ) := opT_plain rfl
theorem t_build {d z ps drop rest chk is fr σ K} : opT C P rd d (.build z ps) drop chk rest is K fr σ = thnT C P rd d drop chk rest is K (evL (.build z ps) (settleL fr (settledL (.build z ps))) σ) := opT_plain rfl
theorem t_bsl {d e n ps drop rest chk is fr σ K} : opT C P rd d (.bsl e n ps) drop chk rest is K fr σ = thnT C P rd d drop chk rest is K (evL (.bsl e n ps) (settleL fr (settledL (.bsl e n ps))) σ) := opT_plain rfl
theorem t_loadA {d n x drop rest chk is fr σ K} : opT C P rd d (.loadA n x) drop chk rest is K fr σ = thnT C P rd d drop chk rest is K (evL (.loadA n x) (settleL fr (settledL (.loadA n x))) σ) := opT_plain rfl
theorem t_load1 {d tk x drop rest chk is fr σ K} : opT C P rd d (.load1 tk x) drop chk rest is K fr σ = thnT C P rd d drop chk rest is K (evL (.load1 tk x) (settleL fr (settledL (.load1 tk x))) σ) := opT_plain rfl
theorem t_store {d n p x drop rest chk is fr σ K} : opT C P rd d (.store n p x) drop chk rest is K fr σ = thnT C P rd d drop chk rest is K (evL (.store n p x) (settleL fr (settledL (.store n p x))) σ) := opT_plain rfl
theorem t_stu {d p x drop rest chk is fr σ K} : opT C P rd d (.stu p x) drop chk rest is K fr σ = thnT C P rd d drop chk rest is K (evL (.stu p x) (settleL fr (settledL (.stu p x))) σ) := opT_plain rfl
theorem t_nilc {d x drop rest chk is fr σ K} : opT C P rd d (.nilc x) drop chk rest is K fr σ = thnT C P rd d drop chk rest is K (evL (.nilc x) (settleL fr (settledL (.nilc x))) σ) := opT_plain rfl
theorem t_bin {d op k x y drop rest chk is fr σ K} : opT C P rd d (.bin op k x y) drop chk rest is K fr σ = thnT C P rd d drop chk rest is K (evL (.bin op k x y) (settleL fr (settledL (.bin op k x y))) σ) := opT_plain rfl
theorem t_un {d op x drop rest chk is fr σ K} : opT C P rd d (.un op x) drop chk rest is K fr σ = thnT C P rd d drop chk rest is K (evL (.un op x) (settleL fr (settledL (.un op x))) σ) := opT_plain rfl
theorem t_conv {d k x drop rest chk is fr σ K} : opT C P rd d (.conv k x) drop chk rest is K fr σ = thnT C P rd d drop chk rest is K (evL (.conv k x) (settleL fr (settledL (.conv k x))) σ) := opT_plain rfl
theorem t_mkfn {d f a b drop rest chk is fr σ K} : opT C P rd d (.mkfn f a b) drop chk rest is K fr σ = thnT C P rd d drop chk rest is K (evL (.mkfn f a b) (settleL fr (settledL (.mkfn f a b))) σ) := opT_plain rfl
theorem t_mkmap {d r drop rest chk is fr σ K} : opT C P rd d (.mkmap r) drop chk rest is K fr σ = thnT C P rd d drop chk rest is K (evL (.mkmap r) (settleL fr (settledL (.mkmap r))) σ) := opT_plain rfl
theorem t_mksl {d tk hp e a c drop rest chk is fr σ K} : opT C P rd d (.mksl tk hp e a c) drop chk rest is K fr σ = thnT C P rd d drop chk rest is K (evL (.mksl tk hp e a c) (settleL fr (settledL (.mksl tk hp e a c))) σ) := opT_plain rfl
theorem t_slc {d k x lo hi mx drop rest chk is fr σ K} : opT C P rd d (.slc k x lo hi mx) drop chk rest is K fr σ = thnT C P rd d drop chk rest is K (evL (.slc k x lo hi mx) (settleL fr (settledL (.slc k x lo hi mx))) σ) := opT_plain rfl
theorem t_shift {d o x drop rest chk is fr σ K} : opT C P rd d (.shift o x) drop chk rest is K fr σ = thnT C P rd d drop chk rest is K (evL (.shift o x) (settleL fr (settledL (.shift o x))) σ) := opT_plain rfl
theorem t_part {d ag o x drop rest chk is fr σ K} : opT C P rd d (.part ag o x) drop chk rest is K fr σ = thnT C P rd d drop chk rest is K (evL (.part ag o x) (settleL fr (settledL (.part ag o x))) σ) := opT_plain rfl
theorem t_ixa {d k x i drop rest chk is fr σ K} : opT C P rd d (.ixa k x i) drop chk rest is K fr σ = thnT C P rd d drop chk rest is K (evL (.ixa k x i) (settleL fr (settledL (.ixa k x i))) σ) := opT_plain rfl
theorem t_ixs {d x i drop rest chk is fr σ K} : opT C P rd d (.ixs x i) drop chk rest is K fr σ = thnT C P rd d drop chk rest is K (evL (.ixs x i) (settleL fr (settledL (.ixs x i))) σ) := opT_plain rfl
theorem t_ixv {d n c ag x i drop rest chk is fr σ K} : opT C P rd d (.ixv n c ag x i) drop chk rest is K fr σ = thnT C P rd d drop chk rest is K (evL (.ixv n c ag x i) (settleL fr (settledL (.ixv n c ag x i))) σ) := opT_plain rfl
theorem t_look {d kk z ok m k drop rest chk is fr σ K} : opT C P rd d (.look kk z ok m k) drop chk rest is K fr σ = thnT C P rd d drop chk rest is K (evL (.look kk z ok m k) (settleL fr (settledL (.look kk z ok m k))) σ) := opT_plain rfl
theorem t_upd {d kk m k v drop rest chk is fr σ K} : opT C P rd d (.upd kk m k v) drop chk rest is K fr σ = thnT C P rd d drop chk rest is K (evL (.upd kk m k v) (settleL fr (settledL (.upd kk m k v))) σ) := opT_plain rfl
theorem t_ext {d x i drop rest chk is fr σ K} : opT C P rd d (.ext x i) drop chk rest is K fr σ = thnT C P rd d drop chk rest is K (evL (.ext x i) (settleL fr (settledL (.ext x i))) σ) := opT_plain rfl
theorem t_len {d k x drop rest chk is fr σ K} : opT C P rd d (.len k x) drop chk rest is K fr σ = thnT C P rd d drop chk rest is K (evL (.len k x) (settleL fr (settledL (.len k x))) σ) := opT_plain rfl
theorem t_cap {d x drop rest chk is fr σ K} : opT C P rd d (.cap x) drop chk rest is K fr σ = thnT C P rd d drop chk rest is K (evL (.cap x) (settleL fr (settledL (.cap x))) σ) := opT_plain rfl
theorem t_app {d e b s x drop rest chk is fr σ K} : opT C P rd d (.app e b s x) drop chk rest is K fr σ = thnT C P rd d drop chk rest is K (evL (.app e b s x) (settleL fr (settledL (.app e b s x))) σ) := opT_plain rfl
theorem t_cpy {d e b s x drop rest chk is fr σ K} : opT C P rd d (.cpy e b s x) drop chk rest is K fr σ = thnT C P rd d drop chk rest is K (evL (.cpy e b s x) (settleL fr (settledL (.cpy e b s x))) σ) := opT_plain rfl
theorem t_del {d kk m k drop rest chk is fr σ K} : opT C P rd d (.del kk m k) drop chk rest is K fr σ = thnT C P rd d drop chk rest is K (evL (.del kk m k) (settleL fr (settledL (.del kk m k))) σ) := opT_plain rfl
theorem t_clr {d e x drop rest chk is fr σ K} : opT C P rd d (.clr e x) drop chk rest is K fr σ = thnT C P rd d drop chk rest is K (evL (.clr e x) (settleL fr (settledL (.clr e x))) σ) := opT_plain rfl
theorem t_mn {d x y drop rest chk is fr σ K} : opT C P rd d (.mn x y) drop chk rest is K fr σ = thnT C P rd d drop chk rest is K (evL (.mn x y) (settleL fr (settledL (.mn x y))) σ) := opT_plain rfl
theorem t_mx {d x y drop rest chk is fr σ K} : opT C P rd d (.mx x y) drop chk rest is K fr σ = thnT C P rd d drop chk rest is K (evL (.mx x y) (settleL fr (settledL (.mx x y))) σ) := opT_plain rfl
theorem t_thaw {d t drop rest chk is fr σ K} : opT C P rd d (.thaw t) drop chk rest is K fr σ = thnT C P rd d drop chk rest is K (evL (.thaw t) (settleL fr (settledL (.thaw t))) σ) := opT_plain rfl
theorem t_frz {d e x drop rest chk is fr σ K} : opT C P rd d (.frz e x) drop chk rest is K fr σ = thnT C P rd d drop chk rest is K (evL (.frz e x) (settleL fr (settledL (.frz e x))) σ) := opT_plain rfl
theorem thnT_some {d drop rest chk is K v fr σ} : thnT C P rd d drop chk rest is K (some (v, fr, σ)) = mvK C P rd drop chk rest is K (putA d v fr) σ := (rfl)
theorem opT_call {d g args drop rest chk is fr σ K} : opT C P rd d (.call g args) drop chk rest is K fr σ = callT C P rd d drop chk rest is K σ (seL fr g) (tkAllL fr args) := by
  unfold opT callT doL
  simp only [settledL, settleL]
  cases seL fr g with
  | fn fn a c => cases fn <;> rfl
  | _ => rfl
theorem callT_fn {d drop rest chk is K σ h a c vs fr} : callT C P rd d drop chk rest is K σ (.fn (.func h) a c) (vs, fr) = C (.fn h) (a ++ vs ++ c) σ (bakT C P rd d drop chk rest is K fr) := (rfl)
theorem callT_yield {d drop rest chk is K σ h vs fr} : callT C P rd d drop chk rest is K σ (.yield h) (vs, fr) = C (.yield h) vs σ (bakT C P rd d drop chk rest is K fr) := (rfl)
theorem bakT_eq {d drop rest chk is K fr v σ} : bakT C P rd d drop chk rest is K fr v σ = mvK C P rd drop chk rest is K (putA d v fr) σ := (rfl)
theorem mvK_nil {drop rest is K fr σ} : mvK C P rd drop [] rest is K fr σ = runT C P rd rest [] is fr σ K := by simp [mvK]
theorem unfC {x y : LCode} (h : x = y) : ∀ {C : CallW} {P : Program} {rd : Bool} {is : List Item} {fr : Fr} {σ : St} {K : KC}, runC C P rd x is fr σ K = runC C P rd y is fr σ K := by subst h; intros; rfl
def cs (l : List FuncId) (n : Nat) : FuncId := l.getD n 0
def fin (base : Nat) (rs : List LR) (K : AV → St → Prop) : KC := finL base rs K
theorem run_fn {F : LFn} {args : List AV} {S H} {K : AV → St → Prop} : runL C P F args ⟨S, H⟩ K = runC C P false F.code [] (args ++ List.replicate (F.ntmps - args.length) .undef) ⟨S, H⟩ (fin S.length F.res K) := (rfl)
def end1 (base : Nat) (K : AV → St → Prop) (σ : St) : Option (List AV) → Prop
  | some [v] => v.under base = true ∧ K v { σ with stk := σ.stk.take base }
  | some vs => underL base vs = true ∧ K (.tup (vs.map AV.look)) { σ with stk := σ.stk.take base }
  | none => False
theorem fin_ret {base rs K fr σ} : fin base rs K .ret fr σ = end1 base K σ (ressL fr σ rs) := (rfl)
theorem fin_normal {base rs K fr σ} : fin base rs K .normal fr σ = end1 base K σ (ressL fr σ rs) := (rfl)
theorem end1_nil {base K S H} : end1 base K ⟨S, H⟩ (some []) = K (.tup []) ⟨S.take base, H⟩ := by simp [end1, AV.under.go]
theorem end1_one {base K S H v} : end1 base K ⟨S, H⟩ (some [v]) = (v.under base = true ∧ K v ⟨S.take base, H⟩) := (rfl)
theorem end1_two {base K S H v u} : end1 base K ⟨S, H⟩ (some [v, u]) = (underL base [v, u] = true ∧ K (.tup [v.look, u.look]) ⟨S.take base, H⟩) := (rfl)
theorem end1_three {base K S H v u t} : end1 base K ⟨S, H⟩ (some [v, u, t]) = (underL base [v, u, t] = true ∧ K (.tup [v.look, u.look, t.look]) ⟨S.take base, H⟩) := (rfl)
theorem end1_four {base K S H v u t s} : end1 base K ⟨S, H⟩ (some [v, u, t, s]) = (underL base [v, u, t, s] = true ∧ K (.tup [v.look, u.look, t.look, s.look]) ⟨S.take base, H⟩) := (rfl)
def cns (v : AV) : Option (List AV) → Option (List AV)
  | some vs => some (v :: vs)
  | none => none
theorem ress_nil {fr σ} : ressL fr σ [] = some [] := (rfl)
theorem ress_t {fr σ n rs} : ressL fr σ (.t n :: rs) = cns (fr.getD n .undef) (ressL fr σ rs) := by
  simp only [ressL, resL]
  cases ressL fr σ rs <;> rfl
theorem cns_some {v vs} : cns v (some vs) = some (v :: vs) := (rfl)
def cns2 (v : Option AV) (r : Option (List AV)) : Option (List AV) := match v with
  | some v => cns v r
  | none => none
theorem ress_many {fr σ a n rs} : ressL fr σ (.many a n :: rs) = cns2 (readA σ (fr.getD a .undef) n) (ressL fr σ rs) := by
  simp only [ressL, resL, cns2]
  cases readA σ (fr.getD a .undef) n <;> cases ressL fr σ rs <;> rfl
theorem ress_one {fr σ a rs} : ressL fr σ (.one a :: rs) = cns2 ((load1L false (fr.getD a .undef) σ).map (·.1)) (ressL fr σ rs) := by
  simp only [ressL, resL, cns2]
  cases (load1L false (fr.getD a .undef) σ).map (·.1) <;> cases ressL fr σ rs <;> rfl
theorem cns2_some {v r} : cns2 (some v) r = cns v r := (rfl)
theorem doL_mono (hC : LeC C C) {op : LOp} {fr σ} {K K' : AV → Fr → St → Prop} (hK : ∀ v fr σ, K v fr σ → K' v fr σ) : doL C op fr σ K → doL C op fr σ K' := by
  unfold doL
  split
  · split
    · split
      · exact fun h1 => hK _ _ _ h1
      · exact id
    · exact fun h1 => hK _ _ _ h1
    · exact id
  · split
    · split
      · exact fun h1 => hK _ _ _ h1
      · split
        · exact fun h1 => ⟨h1.1, fun k => hK _ _ _ (h1.2.1 k), fun e he hs => hK _ _ _ (h1.2.2 e he hs)⟩
        · exact id
    · exact id
  · split
    · split
      · split
        · refine fun h1 => ⟨h1.1, ?_⟩
          have h2 := h1.2
          split at h2
          · exact hK _ _ _ h2
          · exact h2
        · exact id
      · exact id
    · exact id
  · split
    · exact fun h1 => hC _ _ _ _ _ (fun v s k => hK _ _ _ k) h1
    · exact fun h1 => hC _ _ _ _ _ (fun v s k => hK _ _ _ k) h1
    · exact id
  · split
    · exact fun h1 => hK _ _ _ h1
    · exact id
theorem stepL_mono (hC : LeC C C) {s : LStep} {fr σ} {K K' : Fr → St → Prop} (hK : ∀ fr σ, K fr σ → K' fr σ) (h : stepL C s fr σ K) : stepL C s fr σ K' := by
  unfold stepL at h ⊢
  split at h
  · exact ⟨fun hg => doL_mono hC (fun _ _ _ k => hK _ _ k) (h.1 hg), fun hg => hK _ _ (h.2 hg)⟩
  · exact h
theorem seqL_mono {hC : LeC C C} : ∀ (l : List LStep) {fr σ} {K K' : Fr → St → Prop}, (∀ fr σ, K fr σ → K' fr σ) → seqL C l fr σ K → seqL C l fr σ K' := by
  intro l
  induction l with
  | nil => intro fr σ K K' hK h; exact hK _ _ h
  | cons s l ih =>
    intro fr σ K K' hK h
    simp only [seqL] at h ⊢
    split at h
    · exact fun b => ih hK (h b)
    · exact stepL_mono hC (fun _ _ k => ih hK k) h
theorem planL_mono (hC : LeC C C) : ∀ (t : LT) {fr σ chk} {K K' : Fr → St → Prop}, (∀ fr σ, K fr σ → K' fr σ) → planL C t fr σ chk K → planL C t fr σ chk K'
  | .done, fr, σ, chk, K, K', hK, h => hK _ _ h
  | .stop, fr, σ, chk, K, K', hK, h => trivial
  | .rd s i ck rest, fr, σ, chk, K, K', hK, h => by
    simp only [planL] at h ⊢
    split at h
    · refine ⟨fun hg => ?_, fun hg => planL_mono hC rest hK (h.2 hg)⟩
      have h1 := h.1 hg
      split at h1
      · exact planL_mono hC rest hK h1
      · exact h1
    · exact h
  | .mv s drop rest alt, fr, σ, chk, K, K', hK, h => by
    simp only [planL] at h ⊢
    exact ⟨stepL_mono hC (fun fr σ k => ⟨k.1, planL_mono hC rest hK k.2⟩) h.1, planL_mono hC alt hK h.2⟩
theorem execL_mono (hC : LeC C C) : ∀ (c : LCode) {fr σ} {K K' : KC}, (∀ e fr σ, K e fr σ → K' e fr σ) → execL C P rd c fr σ K → execL C P rd c fr σ K'
  | .skip, fr, σ, K, K', hK, h => hK _ _ _ h
  | .sq l, fr, σ, K, K', hK, h => seqL_mono (hC := hC) l (fun _ _ k => hK _ _ _ k) h
  | .tree t, fr, σ, K, K', hK, h => planL_mono hC t (fun _ _ k => hK _ _ _ k) h
  | .seq a b, fr, σ, K, K', hK, h => by
    simp only [execL] at h ⊢
    exact execL_mono hC a (roundK_mono (fun fr s h => execL_mono hC b hK h) hK) h
  | .cond c a b, fr, σ, K, K', hK, h => by
    simp only [execL] at h ⊢
    split at h
    · exact ⟨fun hx => execL_mono hC a hK (h.1 hx), fun hx => execL_mono hC b hK (h.2 hx)⟩
    · exact h
  | .block id b, fr, σ, K, K', hK, h => by
    simp only [execL] at h ⊢
    exact execL_mono hC b (blockK_mono hK) h
  | .loop m b, fr, σ, K, K', hK, h => by
    simp only [execL] at h ⊢
    intro I hI
    exact h I fun fr s hu hb => hI fr s hu (execL_mono hC b (roundK_mono (fun _ _ h => h) hK) hb)
  | .exit id, fr, σ, K, K', hK, h => hK _ _ _ h
  | .ret, fr, σ, K, K', hK, h => hK _ _ _ h
  | .rfun g f ps a b, fr, σ, K, K', hK, h => by
    simp only [execL] at h ⊢
    refine ⟨h.1, ?_⟩
    have h2 := h.2
    split at h2
    · refine ⟨h2.1, hC _ _ _ _ _ (fun v s hk => ?_) h2.2⟩
      split at hk
      · exact ⟨hk.1, hK _ _ _ hk.2⟩
      · exact hk
    · exact h2
  | .bad, fr, σ, K, K', hK, h => h
theorem loop_step (hC : LeC C C) {m : List Bool} {b : LCode} {n0 : Nat} {is : List Item} {fr fr0 : Fr} {S : List (List AV)} {H : List HObj} {K : KC} (hk : keep m fr = fr0) (hu : underL n0 fr0 = true)
    (h : runC C P rd b (.lp m b n0 :: is) fr0 ⟨S.take n0, H⟩ K) : runLp C P rd m b n0 is fr ⟨S, H⟩ K := by
  subst hk
  exact loopW_fold (fun fr σ K K' hK h => execL_mono hC b hK h) hu h
end
end Go.AM
namespace Go.AM
open Go
structure Key where
  b : List UInt8
  h : b.length = 16
theorem Key.ext' {x y : Key} (h : x.b = y.b) : x = y := by cases x; cases y; cases h; rfl
instance : DecidableEq Key := fun x y => if h : x.b = y.b then isTrue (Key.ext' h) else isFalse fun e => h (by rw [e])
def u8 (b : UInt8) : AV := .s (.int .u8 b.toNat)
def bs (l : List UInt8) : List AV := l.map u8
abbrev Key.c (k : Key) : List AV := bs k.b
theorem bs_length (l : List UInt8) : (bs l).length = l.length := by simp [bs]
theorem kc_length (k : Key) : (bs k.b).length = 16 := by simp [bs, k.h]
theorem under_u8 (n : Nat) (b : UInt8) : AV.under n (u8 b) = true := rfl
theorem under_bs (n : Nat) : ∀ (l : List UInt8), AV.under.go n (bs l) = true
  | [] => rfl
  | b :: l => by simp only [bs, List.map_cons, AV.under.go, under_u8, Bool.true_and]; exact under_bs n l
theorem newBox_stk {cs : List AV} {S : List (List AV)} {H : List HObj} (h : underL S.length cs = true) : newBox false cs ⟨S, H⟩ = some (.stk S.length, ⟨S ++ [cs], H⟩) := by
  unfold newBox; simp [h]
theorem newBox_heap {cs : List AV} {S : List (List AV)} {H : List HObj} (h : underL 0 cs = true) : newBox true cs ⟨S, H⟩ = some (.heap H.length, ⟨S, H ++ [.cells cs]⟩) := by
  unfold newBox; simp [h]
theorem app_get0 {α : Type} (S l : List α) : (S ++ l)[S.length]? = l[0]? := by rw [List.getElem?_append_right (Nat.le_refl _), Nat.sub_self]
theorem app_get {α : Type} (S l : List α) (k : Nat) : (S ++ l)[S.length + k]? = l[k]? := by rw [List.getElem?_append_right (Nat.le_add_right _ _), Nat.add_sub_cancel_left]
theorem app_set0 {α : Type} (S l : List α) (x : α) : (S ++ l).set S.length x = S ++ l.set 0 x := by rw [List.set_append_right _ _ (Nat.le_refl _), Nat.sub_self]
theorem app_set {α : Type} (S l : List α) (k : Nat) (x : α) : (S ++ l).set (S.length + k) x = S ++ l.set k x := by rw [List.set_append_right _ _ (Nat.le_add_right _ _), Nat.add_sub_cancel_left]
theorem app_take {α : Type} (S l : List α) : (S ++ l).take S.length = S := by simp
theorem app_take_add {α : Type} (S l : List α) (k : Nat) : (S ++ l).take (S.length + k) = S ++ l.take k := by
  induction S with
  | nil => simp
  | cons x S ih => rw [List.length_cons, Nat.add_right_comm, List.cons_append, List.take_succ_cons, ih]; rfl
theorem app_one {α : Type} (S : List α) (a b : List α) : S ++ a ++ b = S ++ (a ++ b) := List.append_assoc _ _ _
theorem setBox_stk (S : List (List AV)) (H : List HObj) (n : Nat) (cs : List AV) : setBox ⟨S, H⟩ (.stk n) cs = ⟨S.set n cs, H⟩ := rfl
theorem setBox_heap (S : List (List AV)) (H : List HObj) (n : Nat) (cs : List AV) : setBox ⟨S, H⟩ (.heap n) cs = ⟨S, H.set n (.cells cs)⟩ := rfl
def cellsOf? : Option HObj → Option (List AV)
  | some (.cells cs) => some cs
  | _ => none
theorem boxOf_heap (S : List (List AV)) (H : List HObj) (n : Nat) : boxOf ⟨S, H⟩ (.heap n) = cellsOf? H[n]? := by
  show (match H[n]? with | some (.cells cs) => some cs | _ => none) = cellsOf? H[n]?
  cases H[n]? with
  | none => rfl
  | some o => cases o <;> rfl
theorem boxOf_stk (S : List (List AV)) (H : List HObj) (n : Nat) : boxOf ⟨S, H⟩ (.stk n) = S[n]? := rfl
theorem wrap_i64 {x : Int} (h1 : -9223372036854775808 ≤ x) (h2 : x ≤ 9223372036854775807) : IntKind.i64.wrap x = x := by
  unfold IntKind.wrap
  simp [IntKind.signed, IntKind.bits]
  omega
theorem bs_get {l : List UInt8} {i : Nat} (h : i < l.length) : (bs l)[i]? = some (u8 l[i]) := by
  simp [bs, h]
theorem bs_take (l : List UInt8) (n : Nat) : (bs l).take n = bs (l.take n) := by simp [bs]
theorem bs_drop (l : List UInt8) (n : Nat) : (bs l).drop n = bs (l.drop n) := by simp [bs]
theorem look_u8 (b : UInt8) : (u8 b).look = u8 b := rfl
theorem map_look_bs (l : List UInt8) : (bs l).map AV.look = bs l := by simp [bs, look_u8]
theorem bytesIn_bs : ∀ (l : List UInt8), bytesIn (bs l) = some l
  | [] => rfl
  | b :: l => by
    show (bytesIn (bs l)).map _ = _
    rw [bytesIn_bs l]; simp
theorem gd_t (b : Bool) : (b == true) = b := by cases b <;> rfl
theorem gd_f (b : Bool) : (b == false) = !b := by cases b <;> rfl
theorem cast_lit {n : Nat} : ((no_index (OfNat.ofNat n) : Nat) : Int) = OfNat.ofNat n := rfl
theorem group_one : ∀ (n : Nat) (cs : List AV), cs.length = n → groupL ⟨1, false, 1, .undef⟩ n cs = cs
  | 0, cs, h => by cases cs <;> simp_all [groupL]
  | n + 1, [], h => by simp at h
  | n + 1, c :: cs, h => by
    simp only [groupL, packL, List.take_succ_cons, List.take_zero, List.drop_succ_cons, List.drop_zero, List.getD_cons_zero]
    rw [group_one n cs (by simpa using h)]
theorem bs_cell {l : List UInt8} : ∀ c ∈ bs l, c.isCell = true := by
  intro c hc
  obtain ⟨b, _, rfl⟩ := List.mem_map.1 hc
  rfl
theorem elems_row {σ : St} {r : Ref} {off len cap : Nat} {cs : List AV} (h : boxOf σ r = some cs) (hl : off + len ≤ cs.length) (hlook : cs.map AV.look = cs) (hcell : ∀ c ∈ cs, c.isCell = true) : elemsL ⟨1, false, 1, .undef⟩ (.row r off len cap) σ = some ((cs.drop off).take len) := by
  unfold elemsL
  have hm : ((cs.drop off).take len).map AV.look = (cs.drop off).take len := by
    rw [List.map_take, List.map_drop, hlook]
  simp only [Bool.false_or, beq_self_eq_true, if_true, Nat.mul_one, readCells, h, Option.bind_some]
  rw [if_pos ⟨hl, .inr (by rw [hm]; exact List.all_eq_true.2 fun c hc => hcell c (List.mem_of_mem_drop (List.mem_of_mem_take hc)))⟩, Option.map_some, hm, group_one _ _ (by simp; omega)]
theorem conv_row {σ : St} {r : Ref} {off len cap : Nat} {l : List UInt8} (h : boxOf σ r = some (bs l)) (hl : off + len ≤ l.length) : convL .ofBytes (.row r off len cap) σ = some (.s (.str ((l.drop off).take len))) := by
  unfold convL
  simp only [AV.isSlice, if_true]
  rw [elems_row h (by rw [bs_length]; exact hl) (map_look_bs l) bs_cell, bs_drop, bs_take]
  simp only [Option.bind_some, bytesIn_bs, Option.map_some]
theorem loop_rule {C : CallW} {P : Program} {rd : Bool} (hC : LeC C C) {m : List Bool} {b : LCode} {n0 : Nat} {is : List Item} {fr : Fr} {S : List (List AV)} {H : List HObj} {K : KC} {α : Type} (μ : α → Nat) (F : α → Fr) (S0 : α → List (List AV)) (H0 : α → List HObj) (I : α → Prop) (a0 : α)
    (h0 : I a0) (hk : keep m fr = F a0) (hS : S.take n0 = S0 a0) (hH : H = H0 a0) (hu : ∀ a, I a → underL n0 (F a) = true)
    (step : ∀ a, I a → (∀ a' fr' S' H', μ a' < μ a → I a' → keep m fr' = F a' → S'.take n0 = S0 a' → H' = H0 a' → runLp C P rd m b n0 is fr' ⟨S', H'⟩ K) → runC C P rd b (.lp m b n0 :: is) (F a) ⟨S0 a, H0 a⟩ K) :
    runLp C P rd m b n0 is fr ⟨S, H⟩ K := by
  have main : ∀ (n : Nat) (a : α) (fr : Fr) (S : List (List AV)) (H : List HObj), μ a < n → I a → keep m fr = F a → S.take n0 = S0 a → H = H0 a → runLp C P rd m b n0 is fr ⟨S, H⟩ K := by
    intro n
    induction n with
    | zero => intro a fr S H h; omega
    | succ n ih =>
      intro a fr S H h hI hk hS hH
      subst hH
      refine loop_step hC hk (hu a hI) ?_
      rw [hS]
      exact step a hI fun a' fr' S' H' hlt hI' => ih a' fr' S' H' (by omega) hI'
  exact main (μ a0 + 1) a0 fr S H (Nat.lt_succ_self _) h0 hk hS hH
end Go.AM
namespace Go.AM
open Go
def key0 : Key := ⟨List.replicate 16 0, rfl⟩
def zk : List AV := [.s (.int .u8 0), .s (.int .u8 0), .s (.int .u8 0), .s (.int .u8 0), .s (.int .u8 0), .s (.int .u8 0), .s (.int .u8 0), .s (.int .u8 0), .s (.int .u8 0), .s (.int .u8 0), .s (.int .u8 0), .s (.int .u8 0), .s (.int .u8 0), .s (.int .u8 0), .s (.int .u8 0), .s (.int .u8 0)]
def lk : List LK := [.int .u8, .int .u8, .int .u8, .int .u8, .int .u8, .int .u8, .int .u8, .int .u8, .int .u8, .int .u8, .int .u8, .int .u8, .int .u8, .int .u8, .int .u8, .int .u8]
theorem zk_eq : zk = bs key0.b := rfl
theorem take_kc (k : Key) (r : List AV) : (bs k.b ++ r).take 16 = bs k.b := List.take_left' (kc_length k)
theorem drop_kc (k : Key) (r : List AV) : (bs k.b ++ r).drop 16 = r := List.drop_left' (kc_length k)
theorem take_kc0 (k : Key) : (bs k.b).take 16 = bs k.b := List.take_of_length_le (Nat.le_of_eq (kc_length k))
theorem drop_zero' {α : Type} (l : List α) : l.drop 0 = l := rfl
theorem get_kc16 (k : Key) (r : List AV) : (bs k.b ++ r)[16]? = r[0]? := by rw [List.getElem?_append_right (Nat.le_of_eq (kc_length k)), kc_length]
theorem get_kc17 (k : Key) (r : List AV) : (bs k.b ++ r)[17]? = r[1]? := by rw [List.getElem?_append_right (by rw [kc_length]; omega), kc_length]
theorem take_all {α : Type} {l : List α} {n : Nat} (h : l.length ≤ n) : l.take n = l := List.take_of_length_le h
theorem look_app (a b : List AV) : (a ++ b).map AV.look = a.map AV.look ++ b.map AV.look := List.map_append
theorem under_app' {n : Nat} (l l' : List AV) : AV.under.go n (l ++ l') = (AV.under.go n l && AV.under.go n l') := under_app
theorem readA_rop {σ : St} {cs : List AV} {n : Nat} (h : n ≤ cs.length) : readA σ (.rop cs) n = some (.agg (cs.take n)) := by simp [readA, readCells, h]
theorem readA_stk {S : List (List AV)} {l : List (List AV)} {H : List HObj} {j n off : Nat} (hj : j < l.length) (h : off + n ≤ (l.getD j []).length) (hn : n ≠ 1) : readA ⟨S ++ l, H⟩ (.ptr (.stk (S.length + j)) off) n = some (.agg ((((l.getD j []).drop off).take n).map AV.look)) := by
  have e : l[j]? = some (l.getD j []) := by simp [List.getD, hj]
  simp only [readA, readCells, boxOf_stk, app_get, e, Option.bind_some, if_pos (And.intro h (Or.inl hn)), Option.map_some]
theorem readA_stk0 {S : List (List AV)} {l : List (List AV)} {H : List HObj} {n off : Nat} (hj : 0 < l.length) (h : off + n ≤ (l.getD 0 []).length) (hn : n ≠ 1) : readA ⟨S ++ l, H⟩ (.ptr (.stk S.length) off) n = some (.agg ((((l.getD 0 []).drop off).take n).map AV.look)) := readA_stk (j := 0) hj h hn
theorem storeL_stk {S : List (List AV)} {l : List (List AV)} {H : List HObj} {j n : Nat} {vs : List AV} (hj : j < l.length) (h : (l.getD j []).length = n) (hv : vs.length = n) (hn : 2 ≤ n) (hu : AV.under.go (S.length + j) vs = true) : storeL n (.ptr (.stk (S.length + j)) 0) (.agg vs) ⟨S ++ l, H⟩ = some ⟨S ++ l.set j vs, H⟩ := by
  have e : l[j]? = some (l.getD j []) := by simp [List.getD, hj]
  have hs : splice (l.getD j []) 0 vs = vs := by
    unfold splice
    split
    · simp at hv; omega
    · rw [List.take_zero, List.nil_append, Nat.zero_add, hv, List.drop_of_length_le (Nat.le_of_eq h), List.append_nil]
  simp only [storeL, AV.cells, AV.fit, hv, writeCells, boxOf_stk, app_get, e, Option.bind_some, hs, setBox_stk, app_set, mayHold, hu, h, Nat.zero_add, Nat.le_refl, decide_true, Bool.and_self, if_true, true_and]
  rw [if_pos (by simp; omega)]
theorem storeL_stk0 {S : List (List AV)} {l : List (List AV)} {H : List HObj} {n : Nat} {vs : List AV} (hj : 0 < l.length) (h : (l.getD 0 []).length = n) (hv : vs.length = n) (hn : 2 ≤ n) (hu : AV.under.go S.length vs = true) : storeL n (.ptr (.stk S.length) 0) (.agg vs) ⟨S ++ l, H⟩ = some ⟨S ++ l.set 0 vs, H⟩ := storeL_stk (j := 0) hj h hv hn hu
theorem storeL1_stk {S : List (List AV)} {l : List (List AV)} {H : List HObj} {j off : Nat} {v : AV} (hj : j < l.length) (h : off < (l.getD j []).length) (hc : v.cells = [v]) (hf : v.fit = true) (hu : AV.under (S.length + j) v = true) : storeL 1 (.ptr (.stk (S.length + j)) off) v ⟨S ++ l, H⟩ = some ⟨S ++ l.set j ((l.getD j []).set off v), H⟩ := by
  have e : l[j]? = some (l.getD j []) := by simp [List.getD, hj]
  have h1 : off + 1 ≤ (l.getD j []).length := h
  simp only [storeL, hc, hf, List.length_cons, List.length_nil, writeCells, boxOf_stk, app_get, e, Option.bind_some, splice, setBox_stk, app_set, mayHold, AV.under.go, hu, Nat.zero_add, h1, decide_true, Bool.and_self, if_true, true_and, and_self]
  rw [if_pos (by simp)]
theorem storeL1_stk0 {S : List (List AV)} {l : List (List AV)} {H : List HObj} {off : Nat} {v : AV} (hj : 0 < l.length) (h : off < (l.getD 0 []).length) (hc : v.cells = [v]) (hf : v.fit = true) (hu : AV.under S.length v = true) : storeL 1 (.ptr (.stk S.length) off) v ⟨S ++ l, H⟩ = some ⟨S ++ l.set 0 ((l.getD 0 []).set off v), H⟩ := storeL1_stk (j := 0) hj h hc hf hu
theorem storeS_stk {S : List (List AV)} {l : List (List AV)} {H : List HObj} {j off : Nat} {x : Sc} (hj : j < l.length) (h : off < (l.getD j []).length) : storeL 1 (.ptr (.stk (S.length + j)) off) (.s x) ⟨S ++ l, H⟩ = some ⟨S ++ l.set j ((l.getD j []).set off (.s x)), H⟩ := storeL1_stk hj h rfl rfl rfl
theorem storeS_stk0 {S : List (List AV)} {l : List (List AV)} {H : List HObj} {off : Nat} {x : Sc} (hj : 0 < l.length) (h : off < (l.getD 0 []).length) : storeL 1 (.ptr (.stk S.length) off) (.s x) ⟨S ++ l, H⟩ = some ⟨S ++ l.set 0 ((l.getD 0 []).set off (.s x)), H⟩ := storeL1_stk0 hj h rfl rfl rfl
theorem storeQ_stk {S : List (List AV)} {l : List (List AV)} {H : List HObj} {j off sz : Nat} {fl : Fl} {es : List AV} (hj : j < l.length) (h : off < (l.getD j []).length) : storeL 1 (.ptr (.stk (S.length + j)) off) (.list fl sz es) ⟨S ++ l, H⟩ = some ⟨S ++ l.set j ((l.getD j []).set off (.list fl sz es)), H⟩ := storeL1_stk hj h rfl rfl rfl
theorem storeQ_stk0 {S : List (List AV)} {l : List (List AV)} {H : List HObj} {off sz : Nat} {fl : Fl} {es : List AV} (hj : 0 < l.length) (h : off < (l.getD 0 []).length) : storeL 1 (.ptr (.stk S.length) off) (.list fl sz es) ⟨S ++ l, H⟩ = some ⟨S ++ l.set 0 ((l.getD 0 []).set off (.list fl sz es)), H⟩ := storeL1_stk0 hj h rfl rfl rfl
theorem cellsOf_some {cs : List AV} : cellsOf? (some (.cells cs)) = some cs := rfl
theorem under_s {n : Nat} {x : Sc} : AV.under n (.s x) = true := rfl
theorem cells_s {x : Sc} : (AV.s x).cells = [.s x] := rfl
theorem fit_s {x : Sc} : (AV.s x).fit = true := rfl
theorem under_list {n sz : Nat} {fl : Fl} {es : List AV} : AV.under n (.list fl sz es) = true := rfl
theorem cells_list {sz : Nat} {fl : Fl} {es : List AV} : (AV.list fl sz es).cells = [.list fl sz es] := rfl
theorem fit_list {sz : Nat} {fl : Fl} {es : List AV} : (AV.list fl sz es).fit = true := rfl
theorem cells_u8 {x : UInt8} : (u8 x).cells = [u8 x] := rfl
theorem fit_u8 {x : UInt8} : (u8 x).fit = true := rfl
def kA (k : Key) : AV := .agg (bs k.b)
theorem kA_cells {k : Key} : (kA k).cells = bs k.b := rfl
theorem kA_under {n : Nat} {k : Key} : AV.under n (kA k) = true := by simp [kA, AV.under, under_bs]
theorem kA_low {n : Nat} : ∀ {l : List Key}, AV.under.go n (l.map kA) = true
  | [] => rfl
  | k :: l => by simp only [List.map_cons, AV.under.go, kA_under, kA_low (l := l), Bool.and_self]
theorem u8_isCell : ∀ {l : List UInt8}, ∀ c ∈ bs l, c.isCell = true := by
  intro l c hc
  obtain ⟨b, _, rfl⟩ := List.mem_map.1 hc
  rfl
theorem kA_calm {k : Key} : (kA k).calm = kA k := rfl
theorem elems_list {e : ET} {fl : Fl} {es : List AV} {σ : St} : elemsL e (.list fl e.c es) σ = some es := by simp [elemsL]
theorem ixl_map {α : Type} {f : α → AV} {l : List α} {i c : Nat} {k : IntKind} (h : i < l.length) (hc : c ≠ 0) : indexAddrL (.sl c) (.list .sh c (l.map f)) (.s (.int k (i : Int))) = some (.rop (f l[i]).cells) := by
  have h1 : (0 : Int) ≤ i := by omega
  have h2 : (i : Int) < (l.map f).length := by simp; omega
  simp only [indexAddrL, h1, h2, hc, ne_eq, not_false_eq_true, reduceCtorEq, and_self, if_true, Int.toNat_natCast]
  simp [List.getD, h]
theorem ixl_k {l : List Key} {i c : Nat} {k : IntKind} (h : i < l.length) (hc : c ≠ 0) : indexAddrL (.sl c) (.list .sh c (l.map kA)) (.s (.int k (i : Int))) = some (.rop (bs (l[i]).b)) := ixl_map h hc
theorem lenL_list {σ : St} {fl : Fl} {c : Nat} {es : List AV} : lenL .sl (.list fl c es) σ = some es.length := rfl
theorem lenL_str {σ : St} {l : List UInt8} : lenL .str (.s (.str l)) σ = some l.length := rfl
theorem u8_inj {a b : UInt8} : AV.beq (u8 a) (u8 b) = decide (a = b) := by
  simp only [u8, AV.beq]
  by_cases h : a = b
  · simp [h]
  · have : ¬ ((a.toNat : Int) = b.toNat) := fun e => h (UInt8.toNat_inj.1 (by omega))
    simp [h, this]
theorem beq_bs : ∀ (a b : List UInt8), AV.beq.go (bs a) (bs b) = decide (a = b)
  | [], [] => rfl
  | [], _ :: _ => rfl
  | _ :: _, [] => rfl
  | x :: a, y :: b => by
    show (AV.beq (u8 x) (u8 y) && AV.beq.go (bs a) (bs b)) = _
    rw [u8_inj, beq_bs a b]
    by_cases h1 : x = y <;> by_cases h2 : a = b <;> simp [h1, h2]
theorem beq_app : ∀ (a b c d : List AV), a.length = b.length → AV.beq.go (a ++ c) (b ++ d) = (AV.beq.go a b && AV.beq.go c d)
  | [], [], c, d, _ => by simp [AV.beq.go]
  | [], _ :: _, _, _, h => by simp at h
  | _ :: _, [], _, _, h => by simp at h
  | x :: a, y :: b, c, d, h => by simp only [List.cons_append, AV.beq.go, beq_app a b c d (by simpa using h), Bool.and_assoc]
theorem beq_app_k (a b : Key) (c d : List AV) : AV.beq.go (bs a.b ++ c) (bs b.b ++ d) = (AV.beq.go (bs a.b) (bs b.b) && AV.beq.go c d) := beq_app _ _ _ _ (by rw [kc_length, kc_length])
theorem beq_kk (a b : Key) : AV.beq.go (bs a.b) (bs b.b) = decide (a = b) := by
  rw [beq_bs]
  by_cases h : a = b
  · simp [h]
  · have : ¬ a.b = b.b := fun e => h (Key.ext' e)
    simp [h, this]
theorem fits_bs : ∀ (l : List UInt8), fitsL (List.replicate l.length (.int .u8)) (bs l) = true
  | [] => rfl
  | x :: l => by
    show (_ && fitsL (List.replicate l.length (.int .u8)) (bs l)) = true
    rw [fits_bs l]; rfl
theorem fits_app : ∀ (a : List LK) (b : List LK) (c d : List AV), a.length = c.length → fitsL (a ++ b) (c ++ d) = (fitsL a c && fitsL b d)
  | [], _, [], _, _ => by simp [fitsL]
  | [], _, _ :: _, _, h => by simp at h
  | _ :: _, _, [], _, h => by simp at h
  | k :: a, b, x :: c, d, h => by simp only [List.cons_append, fitsL, fits_app a b c d (by simpa using h), Bool.and_assoc]
theorem fits_k (k : Key) : fitsL lk (bs k.b) = true := by
  have := fits_bs k.b
  rw [k.h] at this
  exact this
theorem fits_kr (k : Key) (ls : List LK) (r : List AV) : fitsL (lk ++ ls) (bs k.b ++ r) = fitsL ls r := by
  rw [fits_app _ _ _ _ (by rw [kc_length]; rfl), fits_k, Bool.true_and]
theorem slice_box {n c : Nat} {r : Ref} (h : 0 < n) (hc : c ≠ 0) : sliceL (.arr n c) (.ptr r 0) none none none = some (.row r 0 n n) := by
  simp [sliceL, bound, hc, h]
theorem fillL_nil {cs : List AV} : fillL cs [] = some cs := rfl
theorem len_map' {α β : Type} (f : α → β) (l : List α) : (l.map f).length = l.length := List.length_map _
end Go.AM
namespace Go.AM
open Go
structure Wr where
  key : Key
  val : List UInt8
  gone : Bool
  deriving DecidableEq
def wc (w : Wr) : List AV := bs w.key.b ++ [.s (.str w.val), .s (.bool w.gone)]
def wA (w : Wr) : AV := .agg (wc w)
theorem wc_length (w : Wr) : (wc w).length = 18 := by simp [wc, kc_length]
theorem wc_under {n : Nat} {w : Wr} : AV.under.go n (wc w) = true := by simp [wc, under_app', under_bs, AV.under, AV.under.go]
theorem wA_under {n : Nat} {w : Wr} : AV.under n (wA w) = true := wc_under
theorem wA_low {n : Nat} : ∀ {l : List Wr}, AV.under.go n (l.map wA) = true
  | [] => rfl
  | k :: l => by simp only [List.map_cons, AV.under.go, wA_under, wA_low (l := l), Bool.and_self]
theorem look_wc (w : Wr) : (wc w).map AV.look = wc w := by
  rw [wc, look_app, map_look_bs]; rfl
theorem beq_wc (a b : Wr) : AV.beq.go (wc a) (wc b) = decide (a = b) := by
  rw [wc, wc, beq_app_k, beq_kk]
  cases a; cases b
  simp [AV.beq.go, AV.beq, Wr.mk.injEq, Bool.decide_and, Bool.and_assoc]
theorem fits_wc (w : Wr) : fitsL (lk ++ [.str, .bool]) (wc w) = true := by rw [wc, fits_kr]; rfl
theorem ixl_w {l : List Wr} {i c : Nat} {k : IntKind} (h : i < l.length) (hc : c ≠ 0) : indexAddrL (.sl c) (.list .sh c (l.map wA)) (.s (.int k (i : Int))) = some (.rop (wc l[i])) := ixl_map h hc
theorem take_wc (w : Wr) : (wc w).take 18 = wc w := List.take_of_length_le (Nat.le_of_eq (wc_length w))
theorem take_wk (w : Wr) : (wc w).take 16 = bs w.key.b := take_kc _ _
theorem drop_wc (w : Wr) : (wc w).drop 16 = [.s (.str w.val), .s (.bool w.gone)] := drop_kc _ _
def lstW (l : List Wr) : AV := .list .sh 18 (l.map wA)
theorem shift_rop {cs : List AV} {o : Nat} : shift (.rop cs) o = some (.rop (cs.drop o)) := rfl
theorem load1_rop {σ : St} {v : AV} {cs : List AV} : load1L false (.rop (v :: cs)) σ = some (v, σ) := rfl
theorem WkF.full {sz : Nat} {es as bs : List AV} (h : WkF as bs) : WkF (.list .full sz es :: as) (.list .sh sz es :: bs) := .wk (show WkL [.list .full sz es] _ from .full .nil) h
theorem WkF.own {sz : Nat} {es as bs : List AV} (h : WkF as bs) : WkF (.list .own sz es :: as) (.list .sh sz es :: bs) := .wk (show WkL [.list .sh sz es] _ from .same .nil) h
theorem WkF.uniq {sz : Nat} {es as bs : List AV} (h : WkF as bs) : WkF (.list .uniq sz es :: as) (.list .sh sz es :: bs) := .wk (show WkL [.list .sh sz es] _ from .same .nil) h
theorem WkF.nilS {sz : Nat} {as bs : List AV} (hs : 0 < sz) (h : WkF as bs) : WkF (.s .nilS :: as) (.list .sh sz [] :: bs) := .wk (show WkL [.s .nilS] _ from .nilS hs .nil) h
def WkC (C : CallW) : Prop := ∀ t as bs σ K, WkF as bs → C t bs σ K → C t as σ K
end Go.AM
namespace Go.AM
open Go
def okC (s : LStep) (fr : Fr) (v : AV) (σ : St) : Option Bool → Prop
  | some true => sameV (readL s fr σ) v = true
  | some false => AV.beq (.tup []) v = true
  | none => False
def okAll (drop : List Nat) (σ : St) : List LChk → Prop
  | [] => True
  | c :: cs => (drop.contains c.i = false → okC c.s c.fr c.v σ (guardL c.fr c.s.guard)) ∧ okAll drop σ cs
def leftC (drop : List Nat) : List LChk → List LChk
  | [] => []
  | c :: cs => if drop.contains c.i = true then leftC drop cs else c :: leftC drop cs
theorem okAll_nil {drop σ} : okAll drop σ [] = True := rfl
theorem okAll_cons {drop σ i s fr v cs} : okAll drop σ (⟨i, s, fr, v⟩ :: cs) = ((drop.contains i = false → okC s fr v σ (guardL fr s.guard)) ∧ okAll drop σ cs) := (rfl)
theorem leftC_nil {drop} : leftC drop [] = [] := rfl
theorem leftC_cons {drop i s fr v cs} : leftC drop (⟨i, s, fr, v⟩ :: cs) = if drop.contains i = true then leftC drop cs else ⟨i, s, fr, v⟩ :: leftC drop cs := (rfl)
theorem okC_true {s fr v σ} : okC s fr v σ (some true) = (sameV (readL s fr σ) v = true) := (rfl)
theorem okC_false {s fr v σ} : okC s fr v σ (some false) = (AV.beq (.tup []) v = true) := (rfl)
theorem sameV_some {u v} : sameV (some u) v = u.beq v := (rfl)
theorem leftC_eq {drop : List Nat} : ∀ (l : List LChk), (l.filter fun c => !drop.contains c.i) = leftC drop l
  | [] => rfl
  | c :: cs => by
    rw [List.filter_cons, leftC, leftC_eq cs]
    cases drop.contains c.i <;> rfl
theorem okAll_eq {drop : List Nat} {σ : St} : ∀ {l : List LChk}, okAll drop σ l → (l.filter fun c => !drop.contains c.i).all (fun c => c.ok σ) = true
  | [], _ => rfl
  | c :: cs, h => by
    rw [List.filter_cons]
    have h2 := okAll_eq h.2
    cases hd : drop.contains c.i with
    | true => simpa [hd] using h2
    | false =>
      have h1 := h.1 hd
      have hc : c.ok σ = true := by
        unfold LChk.ok
        cases hg : guardL c.fr c.s.guard with
        | none => rw [hg] at h1; exact h1.elim
        | some b => rw [hg] at h1; cases b <;> exact h1
      simp only [Bool.not_false, if_true, List.all_cons, hc, h2, Bool.and_self]
theorem mvK_chk {C : CallW} {P : Program} {rd : Bool} {drop chk rest is K fr σ} (h : okAll drop σ chk ∧ runT C P rd rest (leftC drop chk) is fr σ K) : mvK C P rd drop chk rest is K fr σ := by
  refine ⟨okAll_eq h.1, ?_⟩
  rw [leftC_eq]; exact h.2
theorem okAll_iff {drop : List Nat} {σ : St} : ∀ {l : List LChk}, (l.filter fun c => !drop.contains c.i).all (fun c => c.ok σ) = true → okAll drop σ l
  | [], _ => trivial
  | c :: cs, h => by
    rw [List.filter_cons] at h
    cases hd : drop.contains c.i with
    | true =>
      rw [hd] at h
      refine ⟨fun e => ?_, okAll_iff (by simpa using h)⟩
      rw [hd] at e; cases e
    | false =>
      rw [hd] at h
      simp only [Bool.not_false, if_true, List.all_cons, Bool.and_eq_true] at h
      refine ⟨fun _ => ?_, okAll_iff h.2⟩
      have h1 := h.1
      unfold LChk.ok at h1
      cases hg : guardL c.fr c.s.guard with
      | none => rw [hg] at h1; cases h1
      | some b => rw [hg] at h1; cases b <;> exact h1
theorem mvK_cons {C : CallW} {P : Program} {rd : Bool} {drop c chk rest is K fr σ} : mvK C P rd drop (c :: chk) rest is K fr σ = (okAll drop σ (c :: chk) ∧ runT C P rd rest (leftC drop (c :: chk)) is fr σ K) :=
  propext ⟨fun h => ⟨okAll_iff h.1, by have := h.2; rwa [leftC_eq] at this⟩, mvK_chk⟩
end Go.AM
namespace Go.AM
open Go
theorem RUN_ :
  (((((((type_of% @Go.AM.runC_skip ∧ (type_of% @Go.AM.runC_sq ∧ type_of% @Go.AM.runC_tree)) ∧ ((type_of% @Go.AM.runC_seq ∧ type_of% @Go.AM.runC_cond) ∧ (type_of% @Go.AM.runC_block ∧ type_of% @Go.AM.runC_exit))) ∧ (((type_of% @Go.AM.runC_ret ∧ type_of% @Go.AM.runC_loop) ∧ (type_of% @Go.AM.cnd_true ∧ type_of% @Go.AM.cnd_false)) ∧ ((type_of% @Go.AM.nxt_nil ∧ type_of% @Go.AM.nxt_c) ∧ (type_of% @Go.AM.nxt_blk ∧ type_of% @Go.AM.nxt_lp)))) ∧ ((((type_of% @Go.AM.ext_nil ∧ type_of% @Go.AM.ext_c) ∧ (type_of% @Go.AM.ext_blk ∧ type_of% @Go.AM.ext_lp)) ∧ ((type_of% @Go.AM.rtn_nil ∧ type_of% @Go.AM.rtn_c) ∧ (type_of% @Go.AM.rtn_blk ∧ type_of% @Go.AM.rtn_lp))) ∧ (((type_of% @Go.AM.runS_nil ∧ type_of% @Go.AM.runS_op) ∧ (type_of% @Go.AM.runS_grd ∧ type_of% @Go.AM.grd_true)) ∧ ((type_of% @Go.AM.grd_false ∧ type_of% @Go.AM.thn_some) ∧ (type_of% @Go.AM.opS_call ∧ type_of% @Go.AM.call_fn))))) ∧ ((((type_of% @Go.AM.call_yield ∧ (type_of% @Go.AM.bak_eq ∧ type_of% @Go.AM.mb_t)) ∧ ((type_of% @Go.AM.mb_f ∧ type_of% @Go.AM.mayb_sc) ∧ (type_of% @Go.AM.mayb_bl ∧ type_of% @Go.AM.mayb_leaf))) ∧ (((type_of% @Go.AM.mayb_r0 ∧ type_of% @Go.AM.mayb_r1) ∧ (type_of% @Go.AM.mayb_r2 ∧ type_of% @Go.AM.mayb_r3)) ∧ ((type_of% @Go.AM.isEq.eq_1 ∧ type_of% @Go.AM.isEq.eq_2) ∧ (type_of% @Go.AM.isEq.eq_3 ∧ type_of% @Go.AM.maybeNil.eq_1)))) ∧ ((((type_of% @Go.AM.maybeNil.eq_2 ∧ type_of% @Go.AM.maybeNil.eq_3) ∧ (type_of% @Go.AM.runT_done ∧ type_of% @Go.AM.runT_stop)) ∧ ((type_of% @Go.AM.runT_rd ∧ type_of% @Go.AM.rdG_true) ∧ (type_of% @Go.AM.rdG_false ∧ type_of% @Go.AM.rdV_some))) ∧ (((type_of% @Go.AM.runT_mv ∧ type_of% @Go.AM.mvG_true) ∧ (type_of% @Go.AM.mvG_false ∧ type_of% @Go.AM.t_mv)) ∧ ((type_of% @Go.AM.t_pick ∧ type_of% @Go.AM.t_alloc) ∧ (type_of% @Go.AM.t_box ∧ type_of% @Go.AM.t_build)))))) ∧ (((((type_of% @Go.AM.t_bsl ∧ (type_of% @Go.AM.t_loadA ∧ type_of% @Go.AM.t_load1)) ∧ ((type_of% @Go.AM.t_store ∧ type_of% @Go.AM.t_nilc) ∧ (type_of% @Go.AM.t_bin ∧ type_of% @Go.AM.t_un))) ∧ (((type_of% @Go.AM.t_conv ∧ type_of% @Go.AM.t_mkfn) ∧ (type_of% @Go.AM.t_mkmap ∧ type_of% @Go.AM.t_mksl)) ∧ ((type_of% @Go.AM.t_slc ∧ type_of% @Go.AM.t_shift) ∧ (type_of% @Go.AM.t_part ∧ type_of% @Go.AM.t_ixa)))) ∧ ((((type_of% @Go.AM.t_ixs ∧ type_of% @Go.AM.t_ixv) ∧ (type_of% @Go.AM.t_look ∧ type_of% @Go.AM.t_upd)) ∧ ((type_of% @Go.AM.t_ext ∧ type_of% @Go.AM.t_len) ∧ (type_of% @Go.AM.t_cap ∧ type_of% @Go.AM.t_app))) ∧ (((type_of% @Go.AM.t_cpy ∧ type_of% @Go.AM.t_del) ∧ (type_of% @Go.AM.t_clr ∧ type_of% @Go.AM.t_mn)) ∧ ((type_of% @Go.AM.t_mx ∧ type_of% @Go.AM.t_thaw) ∧ (type_of% @Go.AM.t_frz ∧ type_of% @Go.AM.thnT_some))))) ∧ (((((type_of% @Go.AM.opT_call ∧ type_of% @Go.AM.callT_fn) ∧ (type_of% @Go.AM.callT_yield ∧ type_of% @Go.AM.bakT_eq)) ∧ ((type_of% @Go.AM.mvK_nil ∧ type_of% @Go.AM.readL.eq_1) ∧ (type_of% @Go.AM.LOp.opds.eq_1 ∧ type_of% @Go.AM.LOp.opds.eq_2))) ∧ (((type_of% @Go.AM.LOp.opds.eq_3 ∧ type_of% @Go.AM.LOp.opds.eq_4) ∧ (type_of% @Go.AM.LOp.opds.eq_5 ∧ type_of% @Go.AM.LOp.opds.eq_6)) ∧ ((type_of% @Go.AM.LOp.opds.eq_7 ∧ type_of% @Go.AM.LOp.opds.eq_8) ∧ (type_of% @Go.AM.LOp.opds.eq_9 ∧ type_of% @Go.AM.LOp.opds.eq_10)))) ∧ ((((type_of% @Go.AM.LOp.opds.eq_11 ∧ type_of% @Go.AM.LOp.opds.eq_12) ∧ (type_of% @Go.AM.LOp.opds.eq_13 ∧ type_of% @Go.AM.LOp.opds.eq_14)) ∧ ((type_of% @Go.AM.LOp.opds.eq_15 ∧ type_of% @Go.AM.LOp.opds.eq_16) ∧ (type_of% @Go.AM.LOp.opds.eq_17 ∧ type_of% @Go.AM.LOp.opds.eq_18))) ∧ (((type_of% @Go.AM.LOp.opds.eq_19 ∧ type_of% @Go.AM.LOp.opds.eq_20) ∧ (type_of% @Go.AM.LOp.opds.eq_21 ∧ type_of% @Go.AM.LOp.opds.eq_22)) ∧ ((type_of% @Go.AM.LOp.opds.eq_23 ∧ type_of% @Go.AM.LOp.opds.eq_24) ∧ (type_of% @Go.AM.LOp.opds.eq_25 ∧ type_of% @Go.AM.LOp.opds.eq_26))))))) ∧ ((((((type_of% @Go.AM.LOp.opds.eq_27 ∧ (type_of% @Go.AM.LOp.opds.eq_28 ∧ type_of% @Go.AM.LOp.opds.eq_29)) ∧ ((type_of% @Go.AM.LOp.opds.eq_30 ∧ type_of% @Go.AM.LOp.opds.eq_31) ∧ (type_of% @Go.AM.LOp.opds.eq_32 ∧ type_of% @Go.AM.LOp.opds.eq_33))) ∧ (((type_of% @Go.AM.LOp.opds.eq_34 ∧ type_of% @Go.AM.LOp.opds.eq_35) ∧ (type_of% @Go.AM.LOp.opds.eq_36 ∧ type_of% @Go.AM.LOp.opds.eq_37)) ∧ ((type_of% @Go.AM.LOp.opds.eq_38 ∧ type_of% @Go.AM.LOp.opds.eq_39) ∧ (type_of% @Go.AM.calmL.eq_1 ∧ type_of% @Go.AM.calmL.eq_2)))) ∧ ((((type_of% @Go.AM.AV.isUniq.eq_1 ∧ type_of% @Go.AM.AV.isUniq.eq_2) ∧ (type_of% @Go.AM.depL.eq_1 ∧ type_of% @Go.AM.depL.eq_2)) ∧ ((type_of% @Go.AM.depL.eq_3 ∧ type_of% @Go.AM.depL.eq_4) ∧ (type_of% @Go.AM.depL.eq_5 ∧ type_of% @Go.AM.depL.eq_6))) ∧ (((type_of% @Go.AM.depL.eq_7 ∧ type_of% @Go.AM.settledL.eq_1) ∧ (type_of% @Go.AM.settledL.eq_2 ∧ type_of% @Go.AM.settledL.eq_3)) ∧ ((type_of% @Go.AM.settledL.eq_4 ∧ type_of% @Go.AM.settledL.eq_5) ∧ (type_of% @Go.AM.settledL.eq_6 ∧ type_of% @Go.AM.settledL.eq_7))))) ∧ ((((type_of% @Go.AM.settledL.eq_8 ∧ (type_of% @Go.AM.settledL.eq_9 ∧ type_of% @Go.AM.settledL.eq_10)) ∧ ((type_of% @Option.toList_none.{0} ∧ type_of% @Option.toList_some.{0}) ∧ (type_of% @Go.AM.e_mv ∧ type_of% @Go.AM.e_pick))) ∧ (((type_of% @Go.AM.e_alloc ∧ type_of% @Go.AM.e_box) ∧ (type_of% @Go.AM.e_build ∧ type_of% @Go.AM.e_bsl)) ∧ ((type_of% @Go.AM.e_loadA ∧ type_of% @Go.AM.e_load1) ∧ (type_of% @Go.AM.e_store ∧ type_of% @Go.AM.e_nilc)))) ∧ ((((type_of% @Go.AM.e_bin ∧ type_of% @Go.AM.e_un) ∧ (type_of% @Go.AM.e_conv ∧ type_of% @Go.AM.e_mkfn)) ∧ ((type_of% @Go.AM.e_mkmap ∧ type_of% @Go.AM.e_mksl) ∧ (type_of% @Go.AM.e_slc ∧ type_of% @Go.AM.e_shift))) ∧ (((type_of% @Go.AM.e_part ∧ type_of% @Go.AM.e_ixa) ∧ (type_of% @Go.AM.e_ixs ∧ type_of% @Go.AM.e_ixv)) ∧ ((type_of% @Go.AM.e_look ∧ type_of% @Go.AM.e_upd) ∧ (type_of% @Go.AM.e_ext ∧ type_of% @Go.AM.e_len)))))) ∧ (((((type_of% @Go.AM.e_cap ∧ (type_of% @Go.AM.e_app ∧ type_of% @Go.AM.e_cpy)) ∧ ((type_of% @Go.AM.e_del ∧ type_of% @Go.AM.e_clr) ∧ (type_of% @Go.AM.e_mn ∧ type_of% @Go.AM.e_mx))) ∧ (((type_of% @Go.AM.e_thaw ∧ type_of% @Go.AM.e_frz) ∧ (type_of% @Go.AM.evL.eq_1 ∧ type_of% @Go.AM.evL.eq_2)) ∧ ((type_of% @Go.AM.evL.eq_3 ∧ type_of% @Go.AM.evL.eq_4) ∧ (type_of% @Go.AM.evL.eq_5 ∧ type_of% @Go.AM.evL.eq_6)))) ∧ ((((type_of% @Go.AM.evL.eq_7 ∧ type_of% @Go.AM.evL.eq_8) ∧ (type_of% @Go.AM.evL.eq_9 ∧ type_of% @Go.AM.evL.eq_10)) ∧ ((type_of% @Go.AM.evL.eq_11 ∧ type_of% @Go.AM.evL.eq_12) ∧ (type_of% @Go.AM.evL.eq_13 ∧ type_of% @Go.AM.evL.eq_14))) ∧ (((type_of% @Go.AM.evL.eq_15 ∧ type_of% @Go.AM.evL.eq_16) ∧ (type_of% @Go.AM.evL.eq_17 ∧ type_of% @Go.AM.evL.eq_18)) ∧ ((type_of% @Go.AM.evL.eq_19 ∧ type_of% @Go.AM.evL.eq_20) ∧ (type_of% @Go.AM.evL.eq_21 ∧ type_of% @Go.AM.evL.eq_22))))) ∧ (((((type_of% @Go.AM.evL.eq_23 ∧ type_of% @Go.AM.evL.eq_24) ∧ (type_of% @Go.AM.evL.eq_25 ∧ type_of% @Go.AM.evL.eq_26)) ∧ ((type_of% @Go.AM.evL.eq_27 ∧ type_of% @Go.AM.evL.eq_28) ∧ (type_of% @Go.AM.evL.eq_29 ∧ type_of% @Go.AM.evL.eq_30))) ∧ (((type_of% @Go.AM.evL.eq_31 ∧ type_of% @Go.AM.evL.eq_32) ∧ (type_of% @Go.AM.evL.eq_33 ∧ type_of% @Go.AM.evL.eq_34)) ∧ ((type_of% @Go.AM.evL.eq_35 ∧ type_of% @Go.AM.evL.eq_36) ∧ (type_of% @Go.AM.evL.eq_37 ∧ type_of% @Go.AM.evL.eq_38)))) ∧ ((((type_of% @Go.AM.evL.eq_39 ∧ type_of% @Go.AM.evL.eq_40) ∧ (type_of% @Go.AM.run_fn ∧ type_of% @Go.AM.fin_ret)) ∧ ((type_of% @Go.AM.fin_normal ∧ type_of% @Go.AM.end1_nil) ∧ (type_of% @Go.AM.end1_one ∧ type_of% @Go.AM.end1_two))) ∧ (((type_of% @Go.AM.end1_three ∧ type_of% @Go.AM.end1_four) ∧ (type_of% @Go.AM.ress_nil ∧ type_of% @Go.AM.ress_t)) ∧ ((type_of% @Go.AM.ress_many ∧ type_of% @Go.AM.ress_one) ∧ (type_of% @Go.AM.cns_some ∧ type_of% @Go.AM.cns2_some)))))))) :=
  ⟨⟨⟨⟨⟨⟨⟨@Go.AM.runC_skip, ⟨@Go.AM.runC_sq, @Go.AM.runC_tree⟩⟩, ⟨⟨@Go.AM.runC_seq, @Go.AM.runC_cond⟩, ⟨@Go.AM.runC_block, @Go.AM.runC_exit⟩⟩⟩, ⟨⟨⟨@Go.AM.runC_ret, @Go.AM.runC_loop⟩, ⟨@Go.AM.cnd_true, @Go.AM.cnd_false⟩⟩, ⟨⟨@Go.AM.nxt_nil, @Go.AM.nxt_c⟩, ⟨@Go.AM.nxt_blk, @Go.AM.nxt_lp⟩⟩⟩⟩, ⟨⟨⟨⟨@Go.AM.ext_nil, @Go.AM.ext_c⟩, ⟨@Go.AM.ext_blk, @Go.AM.ext_lp⟩⟩, ⟨⟨@Go.AM.rtn_nil, @Go.AM.rtn_c⟩, ⟨@Go.AM.rtn_blk, @Go.AM.rtn_lp⟩⟩⟩, ⟨⟨⟨@Go.AM.runS_nil, @Go.AM.runS_op⟩, ⟨@Go.AM.runS_grd, @Go.AM.grd_true⟩⟩, ⟨⟨@Go.AM.grd_false, @Go.AM.thn_some⟩, ⟨@Go.AM.opS_call, @Go.AM.call_fn⟩⟩⟩⟩⟩, ⟨⟨⟨⟨@Go.AM.call_yield, ⟨@Go.AM.bak_eq, @Go.AM.mb_t⟩⟩, ⟨⟨@Go.AM.mb_f, @Go.AM.mayb_sc⟩, ⟨@Go.AM.mayb_bl, @Go.AM.mayb_leaf⟩⟩⟩, ⟨⟨⟨@Go.AM.mayb_r0, @Go.AM.mayb_r1⟩, ⟨@Go.AM.mayb_r2, @Go.AM.mayb_r3⟩⟩, ⟨⟨@Go.AM.isEq.eq_1, @Go.AM.isEq.eq_2⟩, ⟨@Go.AM.isEq.eq_3, @Go.AM.maybeNil.eq_1⟩⟩⟩⟩, ⟨⟨⟨⟨@Go.AM.maybeNil.eq_2, @Go.AM.maybeNil.eq_3⟩, ⟨@Go.AM.runT_done, @Go.AM.runT_stop⟩⟩, ⟨⟨@Go.AM.runT_rd, @Go.AM.rdG_true⟩, ⟨@Go.AM.rdG_false, @Go.AM.rdV_some⟩⟩⟩, ⟨⟨⟨@Go.AM.runT_mv, @Go.AM.mvG_true⟩, ⟨@Go.AM.mvG_false, @Go.AM.t_mv⟩⟩, ⟨⟨@Go.AM.t_pick, @Go.AM.t_alloc⟩, ⟨@Go.AM.t_box, @Go.AM.t_build⟩⟩⟩⟩⟩⟩, ⟨⟨⟨⟨⟨@Go.AM.t_bsl, ⟨@Go.AM.t_loadA, @Go.AM.t_load1⟩⟩, ⟨⟨@Go.AM.t_store, @Go.AM.t_nilc⟩, ⟨@Go.AM.t_bin, @Go.AM.t_un⟩⟩⟩, ⟨⟨⟨@Go.AM.t_conv, @Go.AM.t_mkfn⟩, ⟨@Go.AM.t_mkmap, @Go.AM.t_mksl⟩⟩, ⟨⟨@Go.AM.t_slc, @Go.AM.t_shift⟩, ⟨@Go.AM.t_part, @Go.AM.t_ixa⟩⟩⟩⟩, ⟨⟨⟨⟨@Go.AM.t_ixs, @Go.AM.t_ixv⟩, ⟨@Go.AM.t_look, @Go.AM.t_upd⟩⟩, ⟨⟨@Go.AM.t_ext, @Go.AM.t_len⟩, ⟨@Go.AM.t_cap, @Go.AM.t_app⟩⟩⟩, ⟨⟨⟨@Go.AM.t_cpy, @Go.AM.t_del⟩, ⟨@Go.AM.t_clr, @Go.AM.t_mn⟩⟩, ⟨⟨@Go.AM.t_mx, @Go.AM.t_thaw⟩, ⟨@Go.AM.t_frz, @Go.AM.thnT_some⟩⟩⟩⟩⟩, ⟨⟨⟨⟨⟨@Go.AM.opT_call, @Go.AM.callT_fn⟩, ⟨@Go.AM.callT_yield, @Go.AM.bakT_eq⟩⟩, ⟨⟨@Go.AM.mvK_nil, @Go.AM.readL.eq_1⟩, ⟨@Go.AM.LOp.opds.eq_1, @Go.AM.LOp.opds.eq_2⟩⟩⟩, ⟨⟨⟨@Go.AM.LOp.opds.eq_3, @Go.AM.LOp.opds.eq_4⟩, ⟨@Go.AM.LOp.opds.eq_5, @Go.AM.LOp.opds.eq_6⟩⟩, ⟨⟨@Go.AM.LOp.opds.eq_7, @Go.AM.LOp.opds.eq_8⟩, ⟨@Go.AM.LOp.opds.eq_9, @Go.AM.LOp.opds.eq_10⟩⟩⟩⟩, ⟨⟨⟨⟨@Go.AM.LOp.opds.eq_11, @Go.AM.LOp.opds.eq_12⟩, ⟨@Go.AM.LOp.opds.eq_13, @Go.AM.LOp.opds.eq_14⟩⟩, ⟨⟨@Go.AM.LOp.opds.eq_15, @Go.AM.LOp.opds.eq_16⟩, ⟨@Go.AM.LOp.opds.eq_17, @Go.AM.LOp.opds.eq_18⟩⟩⟩, ⟨⟨⟨@Go.AM.LOp.opds.eq_19, @Go.AM.LOp.opds.eq_20⟩, ⟨@Go.AM.LOp.opds.eq_21, @Go.AM.LOp.opds.eq_22⟩⟩, ⟨⟨@Go.AM.LOp.opds.eq_23, @Go.AM.LOp.opds.eq_24⟩, ⟨@Go.AM.LOp.opds.eq_25, @Go.AM.LOp.opds.eq_26⟩⟩⟩⟩⟩⟩⟩, ⟨⟨⟨⟨⟨⟨@Go.AM.LOp.opds.eq_27, ⟨@Go.AM.LOp.opds.eq_28, @Go.AM.LOp.opds.eq_29⟩⟩, ⟨⟨@Go.AM.LOp.opds.eq_30, @Go.AM.LOp.opds.eq_31⟩, ⟨@Go.AM.LOp.opds.eq_32, @Go.AM.LOp.opds.eq_33⟩⟩⟩, ⟨⟨⟨@Go.AM.LOp.opds.eq_34, @Go.AM.LOp.opds.eq_35⟩, ⟨@Go.AM.LOp.opds.eq_36, @Go.AM.LOp.opds.eq_37⟩⟩, ⟨⟨@Go.AM.LOp.opds.eq_38, @Go.AM.LOp.opds.eq_39⟩, ⟨@Go.AM.calmL.eq_1, @Go.AM.calmL.eq_2⟩⟩⟩⟩, ⟨⟨⟨⟨@Go.AM.AV.isUniq.eq_1, @Go.AM.AV.isUniq.eq_2⟩, ⟨@Go.AM.depL.eq_1, @Go.AM.depL.eq_2⟩⟩, ⟨⟨@Go.AM.depL.eq_3, @Go.AM.depL.eq_4⟩, ⟨@Go.AM.depL.eq_5, @Go.AM.depL.eq_6⟩⟩⟩, ⟨⟨⟨@Go.AM.depL.eq_7, @Go.AM.settledL.eq_1⟩, ⟨@Go.AM.settledL.eq_2, @Go.AM.settledL.eq_3⟩⟩, ⟨⟨@Go.AM.settledL.eq_4, @Go.AM.settledL.eq_5⟩, ⟨@Go.AM.settledL.eq_6, @Go.AM.settledL.eq_7⟩⟩⟩⟩⟩, ⟨⟨⟨⟨@Go.AM.settledL.eq_8, ⟨@Go.AM.settledL.eq_9, @Go.AM.settledL.eq_10⟩⟩, ⟨⟨@Option.toList_none.{0}, @Option.toList_some.{0}⟩, ⟨@Go.AM.e_mv, @Go.AM.e_pick⟩⟩⟩, ⟨⟨⟨@Go.AM.e_alloc, @Go.AM.e_box⟩, ⟨@Go.AM.e_build, @Go.AM.e_bsl⟩⟩, ⟨⟨@Go.AM.e_loadA, @Go.AM.e_load1⟩, ⟨@Go.AM.e_store, @Go.AM.e_nilc⟩⟩⟩⟩, ⟨⟨⟨⟨@Go.AM.e_bin, @Go.AM.e_un⟩, ⟨@Go.AM.e_conv, @Go.AM.e_mkfn⟩⟩, ⟨⟨@Go.AM.e_mkmap, @Go.AM.e_mksl⟩, ⟨@Go.AM.e_slc, @Go.AM.e_shift⟩⟩⟩, ⟨⟨⟨@Go.AM.e_part, @Go.AM.e_ixa⟩, ⟨@Go.AM.e_ixs, @Go.AM.e_ixv⟩⟩, ⟨⟨@Go.AM.e_look, @Go.AM.e_upd⟩, ⟨@Go.AM.e_ext, @Go.AM.e_len⟩⟩⟩⟩⟩⟩, ⟨⟨⟨⟨⟨@Go.AM.e_cap, ⟨@Go.AM.e_app, @Go.AM.e_cpy⟩⟩, ⟨⟨@Go.AM.e_del, @Go.AM.e_clr⟩, ⟨@Go.AM.e_mn, @Go.AM.e_mx⟩⟩⟩, ⟨⟨⟨@Go.AM.e_thaw, @Go.AM.e_frz⟩, ⟨@Go.AM.evL.eq_1, @Go.AM.evL.eq_2⟩⟩, ⟨⟨@Go.AM.evL.eq_3, @Go.AM.evL.eq_4⟩, ⟨@Go.AM.evL.eq_5, @Go.AM.evL.eq_6⟩⟩⟩⟩, ⟨⟨⟨⟨@Go.AM.evL.eq_7, @Go.AM.evL.eq_8⟩, ⟨@Go.AM.evL.eq_9, @Go.AM.evL.eq_10⟩⟩, ⟨⟨@Go.AM.evL.eq_11, @Go.AM.evL.eq_12⟩, ⟨@Go.AM.evL.eq_13, @Go.AM.evL.eq_14⟩⟩⟩, ⟨⟨⟨@Go.AM.evL.eq_15, @Go.AM.evL.eq_16⟩, ⟨@Go.AM.evL.eq_17, @Go.AM.evL.eq_18⟩⟩, ⟨⟨@Go.AM.evL.eq_19, @Go.AM.evL.eq_20⟩, ⟨@Go.AM.evL.eq_21, @Go.AM.evL.eq_22⟩⟩⟩⟩⟩, ⟨⟨⟨⟨⟨@Go.AM.evL.eq_23, @Go.AM.evL.eq_24⟩, ⟨@Go.AM.evL.eq_25, @Go.AM.evL.eq_26⟩⟩, ⟨⟨@Go.AM.evL.eq_27, @Go.AM.evL.eq_28⟩, ⟨@Go.AM.evL.eq_29, @Go.AM.evL.eq_30⟩⟩⟩, ⟨⟨⟨@Go.AM.evL.eq_31, @Go.AM.evL.eq_32⟩, ⟨@Go.AM.evL.eq_33, @Go.AM.evL.eq_34⟩⟩, ⟨⟨@Go.AM.evL.eq_35, @Go.AM.evL.eq_36⟩, ⟨@Go.AM.evL.eq_37, @Go.AM.evL.eq_38⟩⟩⟩⟩, ⟨⟨⟨⟨@Go.AM.evL.eq_39, @Go.AM.evL.eq_40⟩, ⟨@Go.AM.run_fn, @Go.AM.fin_ret⟩⟩, ⟨⟨@Go.AM.fin_normal, @Go.AM.end1_nil⟩, ⟨@Go.AM.end1_one, @Go.AM.end1_two⟩⟩⟩, ⟨⟨⟨@Go.AM.end1_three, @Go.AM.end1_four⟩, ⟨@Go.AM.ress_nil, @Go.AM.ress_t⟩⟩, ⟨⟨@Go.AM.ress_many, @Go.AM.ress_one⟩, ⟨@Go.AM.cns_some, @Go.AM.cns2_some⟩⟩⟩⟩⟩⟩⟩⟩
theorem FR_ :
  ((((((type_of% @Go.AM.putA.eq_1 ∧ (type_of% @Go.AM.putA.eq_2 ∧ type_of% @Go.AM.opL.eq_1)) ∧ (type_of% @Go.AM.opL.eq_2 ∧ (type_of% @Go.AM.opL.eq_3 ∧ type_of% @Go.AM.opL.eq_4))) ∧ ((type_of% @Go.AM.seL.eq_1 ∧ (type_of% @Go.AM.tkL.eq_1 ∧ type_of% @Go.AM.tkL.eq_2)) ∧ ((type_of% @Go.AM.tkL.eq_3 ∧ type_of% @Go.AM.tkAllL.eq_1) ∧ (type_of% @Go.AM.tkAllL.eq_2 ∧ type_of% @Go.AM.sharedL.eq_1)))) ∧ (((type_of% @Go.AM.sharedL.eq_2 ∧ (type_of% @Go.AM.settleL.eq_1 ∧ type_of% @Go.AM.settleL.eq_2)) ∧ ((type_of% @Go.AM.guardL.eq_1 ∧ type_of% @Go.AM.guardL.eq_2) ∧ (type_of% @Go.AM.AV.look.eq_1 ∧ type_of% @Go.AM.AV.look.eq_2))) ∧ ((type_of% @Go.AM.AV.look.eq_3 ∧ (type_of% @Go.AM.AV.sh.eq_1 ∧ type_of% @Go.AM.AV.sh.eq_2)) ∧ ((type_of% @Go.AM.AV.sh.eq_3 ∧ type_of% @Go.AM.AV.left.eq_1) ∧ (type_of% @Go.AM.AV.left.eq_2 ∧ type_of% @Go.AM.AV.left.eq_3))))) ∧ ((((type_of% @Go.AM.AV.calm.eq_1 ∧ (type_of% @Go.AM.AV.calm.eq_2 ∧ type_of% @Go.AM.AV.cells.eq_1)) ∧ (type_of% @Go.AM.AV.cells.eq_2 ∧ (type_of% @Go.AM.AV.fit.eq_1 ∧ type_of% @Go.AM.AV.fit.eq_2))) ∧ ((type_of% @Go.AM.AV.fit.eq_3 ∧ (type_of% @Go.AM.AV.isSlice.eq_1 ∧ type_of% @Go.AM.AV.isSlice.eq_2)) ∧ ((type_of% @Go.AM.AV.isSlice.eq_3 ∧ type_of% @Go.AM.AV.isSlice.eq_4) ∧ (type_of% @Go.AM.AV.isStr.eq_1 ∧ type_of% @Go.AM.AV.isStr.eq_2)))) ∧ (((type_of% @Go.AM.AV.nilKind.eq_1 ∧ (type_of% @Go.AM.AV.nilKind.eq_2 ∧ type_of% @Go.AM.AV.nilKind.eq_3)) ∧ ((type_of% @Go.AM.AV.nilKind.eq_4 ∧ type_of% @Go.AM.AV.nilKind.eq_5) ∧ (type_of% @Go.AM.AV.refKind.eq_1 ∧ type_of% @Go.AM.AV.refKind.eq_2))) ∧ ((type_of% @Go.AM.AV.refKind.eq_3 ∧ (type_of% @Go.AM.AV.refKind.eq_4 ∧ type_of% @Go.AM.AV.refKind.eq_5)) ∧ ((type_of% @Go.AM.AV.refKind.eq_6 ∧ type_of% @Go.AM.AV.refKind.eq_7) ∧ (type_of% @Go.AM.AV.refKind.eq_8 ∧ type_of% @List.getD_cons_zero.{0})))))) ∧ (((((type_of% @List.getD_cons_succ.{0} ∧ (type_of% @List.set_cons_zero.{0} ∧ type_of% @List.set_cons_succ.{0})) ∧ (type_of% @List.getElem?_cons_zero.{0} ∧ (type_of% @List.getElem?_cons_succ.{0} ∧ type_of% @List.length_cons.{0}))) ∧ ((type_of% @List.length_nil.{0} ∧ (type_of% @List.replicate_succ.{0} ∧ type_of% @List.replicate_zero.{0})) ∧ ((type_of% @List.cons_append.{0} ∧ type_of% @List.nil_append.{0}) ∧ (type_of% @List.append_nil.{0} ∧ type_of% @List.map_cons.{0, 0})))) ∧ (((type_of% @List.map_nil.{0, 0} ∧ (type_of% @List.take_succ_cons.{0} ∧ type_of% @List.take_zero.{0})) ∧ ((type_of% @List.drop_succ_cons.{0} ∧ type_of% @List.drop_zero.{0}) ∧ (type_of% @List.all_cons.{0} ∧ type_of% @List.all_nil.{0}))) ∧ ((type_of% @Option.map_some.{0, 0} ∧ (type_of% @Option.map_none.{0, 0} ∧ type_of% @Option.bind_some.{0, 0})) ∧ ((type_of% @Nat.zero_add ∧ type_of% @Nat.add_zero) ∧ (type_of% @Nat.zero_mul ∧ type_of% @Go.AM.cast_lit))))) ∧ ((((type_of% @Go.AM.gd_t ∧ (type_of% @Go.AM.gd_f ∧ type_of% @gt_iff_lt.{0})) ∧ ((type_of% @ge_iff_le.{0} ∧ type_of% @or_self) ∧ (type_of% @or_false ∧ type_of% @false_or))) ∧ ((type_of% @true_implies ∧ (type_of% @false_implies ∧ type_of% @and_true)) ∧ ((type_of% @true_and ∧ type_of% @Bool.false_eq_true) ∧ (type_of% @Bool.true_eq_false ∧ type_of% @not_false_eq_true)))) ∧ (((type_of% @not_true_eq_false ∧ (type_of% @beq_self_eq_true.{0} ∧ type_of% @beq_iff_eq.{0})) ∧ ((type_of% @Bool.and_true ∧ type_of% @Bool.true_and) ∧ (type_of% @Bool.and_self ∧ type_of% @Bool.not_true))) ∧ ((type_of% @Bool.not_false ∧ (type_of% @Bool.or_false ∧ type_of% @Bool.false_or)) ∧ ((type_of% @Bool.or_true ∧ type_of% @Bool.true_or) ∧ (type_of% @decide_true ∧ type_of% @decide_false))))))) :=
  ⟨⟨⟨⟨⟨⟨@Go.AM.putA.eq_1, ⟨@Go.AM.putA.eq_2, @Go.AM.opL.eq_1⟩⟩, ⟨@Go.AM.opL.eq_2, ⟨@Go.AM.opL.eq_3, @Go.AM.opL.eq_4⟩⟩⟩, ⟨⟨@Go.AM.seL.eq_1, ⟨@Go.AM.tkL.eq_1, @Go.AM.tkL.eq_2⟩⟩, ⟨⟨@Go.AM.tkL.eq_3, @Go.AM.tkAllL.eq_1⟩, ⟨@Go.AM.tkAllL.eq_2, @Go.AM.sharedL.eq_1⟩⟩⟩⟩, ⟨⟨⟨@Go.AM.sharedL.eq_2, ⟨@Go.AM.settleL.eq_1, @Go.AM.settleL.eq_2⟩⟩, ⟨⟨@Go.AM.guardL.eq_1, @Go.AM.guardL.eq_2⟩, ⟨@Go.AM.AV.look.eq_1, @Go.AM.AV.look.eq_2⟩⟩⟩, ⟨⟨@Go.AM.AV.look.eq_3, ⟨@Go.AM.AV.sh.eq_1, @Go.AM.AV.sh.eq_2⟩⟩, ⟨⟨@Go.AM.AV.sh.eq_3, @Go.AM.AV.left.eq_1⟩, ⟨@Go.AM.AV.left.eq_2, @Go.AM.AV.left.eq_3⟩⟩⟩⟩⟩, ⟨⟨⟨⟨@Go.AM.AV.calm.eq_1, ⟨@Go.AM.AV.calm.eq_2, @Go.AM.AV.cells.eq_1⟩⟩, ⟨@Go.AM.AV.cells.eq_2, ⟨@Go.AM.AV.fit.eq_1, @Go.AM.AV.fit.eq_2⟩⟩⟩, ⟨⟨@Go.AM.AV.fit.eq_3, ⟨@Go.AM.AV.isSlice.eq_1, @Go.AM.AV.isSlice.eq_2⟩⟩, ⟨⟨@Go.AM.AV.isSlice.eq_3, @Go.AM.AV.isSlice.eq_4⟩, ⟨@Go.AM.AV.isStr.eq_1, @Go.AM.AV.isStr.eq_2⟩⟩⟩⟩, ⟨⟨⟨@Go.AM.AV.nilKind.eq_1, ⟨@Go.AM.AV.nilKind.eq_2, @Go.AM.AV.nilKind.eq_3⟩⟩, ⟨⟨@Go.AM.AV.nilKind.eq_4, @Go.AM.AV.nilKind.eq_5⟩, ⟨@Go.AM.AV.refKind.eq_1, @Go.AM.AV.refKind.eq_2⟩⟩⟩, ⟨⟨@Go.AM.AV.refKind.eq_3, ⟨@Go.AM.AV.refKind.eq_4, @Go.AM.AV.refKind.eq_5⟩⟩, ⟨⟨@Go.AM.AV.refKind.eq_6, @Go.AM.AV.refKind.eq_7⟩, ⟨@Go.AM.AV.refKind.eq_8, @List.getD_cons_zero.{0}⟩⟩⟩⟩⟩⟩, ⟨⟨⟨⟨⟨@List.getD_cons_succ.{0}, ⟨@List.set_cons_zero.{0}, @List.set_cons_succ.{0}⟩⟩, ⟨@List.getElem?_cons_zero.{0}, ⟨@List.getElem?_cons_succ.{0}, @List.length_cons.{0}⟩⟩⟩, ⟨⟨@List.length_nil.{0}, ⟨@List.replicate_succ.{0}, @List.replicate_zero.{0}⟩⟩, ⟨⟨@List.cons_append.{0}, @List.nil_append.{0}⟩, ⟨@List.append_nil.{0}, @List.map_cons.{0, 0}⟩⟩⟩⟩, ⟨⟨⟨@List.map_nil.{0, 0}, ⟨@List.take_succ_cons.{0}, @List.take_zero.{0}⟩⟩, ⟨⟨@List.drop_succ_cons.{0}, @List.drop_zero.{0}⟩, ⟨@List.all_cons.{0}, @List.all_nil.{0}⟩⟩⟩, ⟨⟨@Option.map_some.{0, 0}, ⟨@Option.map_none.{0, 0}, @Option.bind_some.{0, 0}⟩⟩, ⟨⟨@Nat.zero_add, @Nat.add_zero⟩, ⟨@Nat.zero_mul, @Go.AM.cast_lit⟩⟩⟩⟩⟩, ⟨⟨⟨⟨@Go.AM.gd_t, ⟨@Go.AM.gd_f, @gt_iff_lt.{0}⟩⟩, ⟨⟨@ge_iff_le.{0}, @or_self⟩, ⟨@or_false, @false_or⟩⟩⟩, ⟨⟨@true_implies, ⟨@false_implies, @and_true⟩⟩, ⟨⟨@true_and, @Bool.false_eq_true⟩, ⟨@Bool.true_eq_false, @not_false_eq_true⟩⟩⟩⟩, ⟨⟨⟨@not_true_eq_false, ⟨@beq_self_eq_true.{0}, @beq_iff_eq.{0}⟩⟩, ⟨⟨@Bool.and_true, @Bool.true_and⟩, ⟨@Bool.and_self, @Bool.not_true⟩⟩⟩, ⟨⟨@Bool.not_false, ⟨@Bool.or_false, @Bool.false_or⟩⟩, ⟨⟨@Bool.or_true, @Bool.true_or⟩, ⟨@decide_true, @decide_false⟩⟩⟩⟩⟩⟩⟩
theorem OPK_ :
  ((((((type_of% @Go.AM.binL.eq_1 ∧ type_of% @Go.AM.binL.eq_2) ∧ (type_of% @Go.AM.binL.eq_3 ∧ (type_of% @Go.AM.binL.eq_4 ∧ type_of% @Go.AM.binL.eq_5))) ∧ ((type_of% @Go.AM.binL.eq_6 ∧ type_of% @Go.AM.binL.eq_7) ∧ (type_of% @Go.AM.binL.eq_8 ∧ (type_of% @Go.AM.binL.eq_9 ∧ type_of% @Go.AM.binL.eq_10)))) ∧ (((type_of% @Go.AM.binL.eq_11 ∧ type_of% @Go.AM.scBin.eq_1) ∧ (type_of% @Go.AM.scBin.eq_2 ∧ (type_of% @Go.AM.scBin.eq_3 ∧ type_of% @Go.AM.scBin.eq_4))) ∧ ((type_of% @Go.AM.scBin.eq_5 ∧ (type_of% @Go.AM.scBin.eq_6 ∧ type_of% @Go.AM.blBin.eq_1)) ∧ (type_of% @Go.AM.blBin.eq_2 ∧ (type_of% @Go.AM.blBin.eq_3 ∧ type_of% @Go.AM.intBin.eq_1))))) ∧ ((((type_of% @Go.AM.intBin.eq_2 ∧ type_of% @Go.AM.intBin.eq_3) ∧ (type_of% @Go.AM.intBin.eq_4 ∧ (type_of% @Go.AM.intBin.eq_5 ∧ type_of% @Go.AM.intBin.eq_6))) ∧ ((type_of% @Go.AM.intBin.eq_7 ∧ (type_of% @Go.AM.intBin.eq_8 ∧ type_of% @Go.AM.intBin.eq_9)) ∧ (type_of% @Go.AM.intBin.eq_10 ∧ (type_of% @Go.AM.intBin.eq_11 ∧ type_of% @Go.AM.intBin.eq_12)))) ∧ (((type_of% @Go.AM.intBin.eq_13 ∧ type_of% @Go.AM.intBin.eq_14) ∧ (type_of% @Go.AM.intBin.eq_15 ∧ (type_of% @Go.AM.intBin.eq_16 ∧ type_of% @Go.AM.intShift.eq_1))) ∧ ((type_of% @Go.AM.intShift.eq_2 ∧ (type_of% @Go.AM.intShift.eq_3 ∧ type_of% @Go.AM.unL.eq_1)) ∧ (type_of% @Go.AM.unL.eq_2 ∧ (type_of% @Go.AM.unL.eq_3 ∧ type_of% @Go.AM.unL.eq_4)))))) ∧ (((((type_of% @Go.AM.load1L.eq_1 ∧ type_of% @Go.AM.load1L.eq_2) ∧ (type_of% @Go.AM.load1L.eq_3 ∧ (type_of% @Go.AM.load1L.eq_4 ∧ type_of% @Go.AM.readCells.eq_1))) ∧ ((type_of% @Go.AM.readCells.eq_2 ∧ (type_of% @Go.AM.readCells.eq_3 ∧ type_of% @Go.AM.splice.eq_1)) ∧ (type_of% @Go.AM.splice.eq_2 ∧ (type_of% @Go.AM.mayHold.eq_1 ∧ type_of% @Go.AM.mayHold.eq_2)))) ∧ (((type_of% @Go.AM.boxOf_stk ∧ type_of% @Go.AM.boxOf_heap) ∧ (type_of% @Go.AM.setBox_stk ∧ (type_of% @Go.AM.setBox_heap ∧ type_of% @Go.AM.newBox_stk))) ∧ ((type_of% @Go.AM.newBox_heap ∧ (type_of% @Go.AM.app_get0 ∧ type_of% @Go.AM.app_get)) ∧ (type_of% @Go.AM.app_set0 ∧ (type_of% @Go.AM.app_set ∧ type_of% @Go.AM.app_take))))) ∧ ((((type_of% @Go.AM.app_one ∧ type_of% @List.length_append.{0}) ∧ (type_of% @Go.AM.shift.eq_1 ∧ (type_of% @Go.AM.shift.eq_2 ∧ type_of% @Go.AM.shift.eq_3))) ∧ ((type_of% @Go.AM.partL.eq_1 ∧ (type_of% @Go.AM.partL.eq_2 ∧ type_of% @Go.AM.capL.eq_1)) ∧ (type_of% @Go.AM.capL.eq_2 ∧ (type_of% @Go.AM.capL.eq_3 ∧ type_of% @Nat.add_assoc)))) ∧ (((type_of% @Go.AM.AV.under.eq_1 ∧ type_of% @Go.AM.AV.under.eq_2) ∧ (type_of% @Go.AM.AV.under.eq_3 ∧ (type_of% @Go.AM.AV.under.eq_4 ∧ type_of% @Go.AM.AV.under.eq_5))) ∧ ((type_of% @Go.AM.AV.under.eq_6 ∧ (type_of% @Go.AM.AV.under.go.eq_1 ∧ type_of% @Go.AM.AV.under.go.eq_2)) ∧ (type_of% @Go.AM.finL.eq_1 ∧ (type_of% @Go.AM.finL.eq_2 ∧ type_of% @Go.AM.finL.eq_3))))))) :=
  ⟨⟨⟨⟨⟨⟨@Go.AM.binL.eq_1, @Go.AM.binL.eq_2⟩, ⟨@Go.AM.binL.eq_3, ⟨@Go.AM.binL.eq_4, @Go.AM.binL.eq_5⟩⟩⟩, ⟨⟨@Go.AM.binL.eq_6, @Go.AM.binL.eq_7⟩, ⟨@Go.AM.binL.eq_8, ⟨@Go.AM.binL.eq_9, @Go.AM.binL.eq_10⟩⟩⟩⟩, ⟨⟨⟨@Go.AM.binL.eq_11, @Go.AM.scBin.eq_1⟩, ⟨@Go.AM.scBin.eq_2, ⟨@Go.AM.scBin.eq_3, @Go.AM.scBin.eq_4⟩⟩⟩, ⟨⟨@Go.AM.scBin.eq_5, ⟨@Go.AM.scBin.eq_6, @Go.AM.blBin.eq_1⟩⟩, ⟨@Go.AM.blBin.eq_2, ⟨@Go.AM.blBin.eq_3, @Go.AM.intBin.eq_1⟩⟩⟩⟩⟩, ⟨⟨⟨⟨@Go.AM.intBin.eq_2, @Go.AM.intBin.eq_3⟩, ⟨@Go.AM.intBin.eq_4, ⟨@Go.AM.intBin.eq_5, @Go.AM.intBin.eq_6⟩⟩⟩, ⟨⟨@Go.AM.intBin.eq_7, ⟨@Go.AM.intBin.eq_8, @Go.AM.intBin.eq_9⟩⟩, ⟨@Go.AM.intBin.eq_10, ⟨@Go.AM.intBin.eq_11, @Go.AM.intBin.eq_12⟩⟩⟩⟩, ⟨⟨⟨@Go.AM.intBin.eq_13, @Go.AM.intBin.eq_14⟩, ⟨@Go.AM.intBin.eq_15, ⟨@Go.AM.intBin.eq_16, @Go.AM.intShift.eq_1⟩⟩⟩, ⟨⟨@Go.AM.intShift.eq_2, ⟨@Go.AM.intShift.eq_3, @Go.AM.unL.eq_1⟩⟩, ⟨@Go.AM.unL.eq_2, ⟨@Go.AM.unL.eq_3, @Go.AM.unL.eq_4⟩⟩⟩⟩⟩⟩, ⟨⟨⟨⟨⟨@Go.AM.load1L.eq_1, @Go.AM.load1L.eq_2⟩, ⟨@Go.AM.load1L.eq_3, ⟨@Go.AM.load1L.eq_4, @Go.AM.readCells.eq_1⟩⟩⟩, ⟨⟨@Go.AM.readCells.eq_2, ⟨@Go.AM.readCells.eq_3, @Go.AM.splice.eq_1⟩⟩, ⟨@Go.AM.splice.eq_2, ⟨@Go.AM.mayHold.eq_1, @Go.AM.mayHold.eq_2⟩⟩⟩⟩, ⟨⟨⟨@Go.AM.boxOf_stk, @Go.AM.boxOf_heap⟩, ⟨@Go.AM.setBox_stk, ⟨@Go.AM.setBox_heap, @Go.AM.newBox_stk⟩⟩⟩, ⟨⟨@Go.AM.newBox_heap, ⟨@Go.AM.app_get0, @Go.AM.app_get⟩⟩, ⟨@Go.AM.app_set0, ⟨@Go.AM.app_set, @Go.AM.app_take⟩⟩⟩⟩⟩, ⟨⟨⟨⟨@Go.AM.app_one, @List.length_append.{0}⟩, ⟨@Go.AM.shift.eq_1, ⟨@Go.AM.shift.eq_2, @Go.AM.shift.eq_3⟩⟩⟩, ⟨⟨@Go.AM.partL.eq_1, ⟨@Go.AM.partL.eq_2, @Go.AM.capL.eq_1⟩⟩, ⟨@Go.AM.capL.eq_2, ⟨@Go.AM.capL.eq_3, @Nat.add_assoc⟩⟩⟩⟩, ⟨⟨⟨@Go.AM.AV.under.eq_1, @Go.AM.AV.under.eq_2⟩, ⟨@Go.AM.AV.under.eq_3, ⟨@Go.AM.AV.under.eq_4, @Go.AM.AV.under.eq_5⟩⟩⟩, ⟨⟨@Go.AM.AV.under.eq_6, ⟨@Go.AM.AV.under.go.eq_1, @Go.AM.AV.under.go.eq_2⟩⟩, ⟨@Go.AM.finL.eq_1, ⟨@Go.AM.finL.eq_2, @Go.AM.finL.eq_3⟩⟩⟩⟩⟩⟩⟩
theorem KEY_ :
  ((((((type_of% @Go.AM.bslL.eq_1 ∧ type_of% @Go.AM.fillE.eq_1) ∧ (type_of% @Go.AM.fillE.eq_2 ∧ (type_of% @List.isEmpty_nil.{0} ∧ type_of% @List.isEmpty_cons.{0}))) ∧ ((type_of% @Go.AM.under_s ∧ type_of% @Go.AM.cells_s) ∧ (type_of% @Go.AM.fit_s ∧ (type_of% @Go.AM.under_list ∧ type_of% @Go.AM.cells_list)))) ∧ (((type_of% @Go.AM.fit_list ∧ type_of% @Go.AM.storeS_stk) ∧ (type_of% @Go.AM.storeS_stk0 ∧ (type_of% @Go.AM.storeQ_stk ∧ type_of% @Go.AM.storeQ_stk0))) ∧ ((type_of% @Go.AM.cellsOf_some ∧ (type_of% @Go.AM.cells_u8 ∧ type_of% @Go.AM.fit_u8)) ∧ (type_of% @Go.AM.kA_cells ∧ (type_of% @Go.AM.kA_under ∧ type_of% @Go.AM.kA_low))))) ∧ ((((type_of% @Go.AM.kA_calm ∧ type_of% @Go.AM.under_u8) ∧ (type_of% @Go.AM.look_u8 ∧ (type_of% @Go.AM.elems_list ∧ type_of% @Go.AM.storeL_stk))) ∧ ((type_of% @Go.AM.storeL_stk0 ∧ (type_of% @Go.AM.readA_rop ∧ type_of% @Go.AM.readA_stk)) ∧ (type_of% @Go.AM.readA_stk0 ∧ (type_of% @Go.AM.zk_eq ∧ type_of% @Go.AM.kc_length)))) ∧ (((type_of% @Go.AM.take_kc ∧ type_of% @Go.AM.drop_kc) ∧ (type_of% @Go.AM.take_kc0 ∧ (type_of% @Go.AM.drop_zero' ∧ type_of% @Go.AM.get_kc16))) ∧ ((type_of% @Go.AM.get_kc17 ∧ (type_of% @Go.AM.take_all ∧ type_of% @Go.AM.look_app)) ∧ (type_of% @Go.AM.map_look_bs ∧ (type_of% @Go.AM.under_app' ∧ type_of% @Go.AM.under_bs)))))) ∧ (((((type_of% @Go.AM.ixl_k ∧ type_of% @Go.AM.lenL_list) ∧ (type_of% @Go.AM.lenL_str ∧ (type_of% @Go.AM.beq_app_k ∧ type_of% @Go.AM.beq_kk))) ∧ ((type_of% @Go.AM.fits_k ∧ (type_of% @Go.AM.fits_kr ∧ type_of% @Go.AM.slice_box)) ∧ (type_of% @Go.AM.fillL_nil ∧ (type_of% @Go.AM.len_map' ∧ type_of% @List.length_append.{0})))) ∧ (((type_of% @List.getD_cons_zero.{0} ∧ type_of% @List.getD_cons_succ.{0}) ∧ (type_of% @Go.AM.cellsEq.eq_1 ∧ (type_of% @List.getD_nil.{0} ∧ type_of% @List.length_set.{0}))) ∧ ((type_of% @Nat.zero_lt_succ ∧ (type_of% @Nat.lt_irrefl ∧ type_of% @List.set_cons_zero.{0})) ∧ (type_of% @List.set_cons_succ.{0} ∧ (type_of% @Nat.le_refl ∧ type_of% @Go.AM.fitsL.eq_1))))) ∧ ((((type_of% @Go.AM.fitsL.eq_2 ∧ type_of% @Go.AM.fitsL.eq_3) ∧ (type_of% @Go.AM.AV.beq.go.eq_1 ∧ (type_of% @Go.AM.AV.beq.go.eq_2 ∧ type_of% @Go.AM.AV.beq.go.eq_3))) ∧ ((type_of% @Go.AM.AV.beq.eq_1 ∧ (type_of% @Go.AM.AV.beq.eq_2 ∧ type_of% @Go.AM.AV.beq.eq_3)) ∧ (type_of% @Go.AM.AV.beq.eq_4 ∧ (type_of% @Go.AM.AV.beq.eq_5 ∧ type_of% @Go.AM.AV.beq.eq_6)))) ∧ (((type_of% @Go.AM.AV.beq.eq_7 ∧ type_of% @Go.AM.AV.beq.eq_8) ∧ (type_of% @Go.AM.AV.beq.eq_9 ∧ (type_of% @Go.AM.AV.beq.eq_10 ∧ type_of% @Go.AM.AV.beq.eq_11))) ∧ ((type_of% @Go.AM.AV.beq.eq_12 ∧ (type_of% @List.length_nil.{0} ∧ type_of% @List.length_cons.{0})) ∧ (type_of% @Go.AM.AV.cells.eq_1 ∧ (type_of% @Go.AM.AV.cells.eq_2 ∧ type_of% @Int.toNat_natCast))))))) :=
  ⟨⟨⟨⟨⟨⟨@Go.AM.bslL.eq_1, @Go.AM.fillE.eq_1⟩, ⟨@Go.AM.fillE.eq_2, ⟨@List.isEmpty_nil.{0}, @List.isEmpty_cons.{0}⟩⟩⟩, ⟨⟨@Go.AM.under_s, @Go.AM.cells_s⟩, ⟨@Go.AM.fit_s, ⟨@Go.AM.under_list, @Go.AM.cells_list⟩⟩⟩⟩, ⟨⟨⟨@Go.AM.fit_list, @Go.AM.storeS_stk⟩, ⟨@Go.AM.storeS_stk0, ⟨@Go.AM.storeQ_stk, @Go.AM.storeQ_stk0⟩⟩⟩, ⟨⟨@Go.AM.cellsOf_some, ⟨@Go.AM.cells_u8, @Go.AM.fit_u8⟩⟩, ⟨@Go.AM.kA_cells, ⟨@Go.AM.kA_under, @Go.AM.kA_low⟩⟩⟩⟩⟩, ⟨⟨⟨⟨@Go.AM.kA_calm, @Go.AM.under_u8⟩, ⟨@Go.AM.look_u8, ⟨@Go.AM.elems_list, @Go.AM.storeL_stk⟩⟩⟩, ⟨⟨@Go.AM.storeL_stk0, ⟨@Go.AM.readA_rop, @Go.AM.readA_stk⟩⟩, ⟨@Go.AM.readA_stk0, ⟨@Go.AM.zk_eq, @Go.AM.kc_length⟩⟩⟩⟩, ⟨⟨⟨@Go.AM.take_kc, @Go.AM.drop_kc⟩, ⟨@Go.AM.take_kc0, ⟨@Go.AM.drop_zero', @Go.AM.get_kc16⟩⟩⟩, ⟨⟨@Go.AM.get_kc17, ⟨@Go.AM.take_all, @Go.AM.look_app⟩⟩, ⟨@Go.AM.map_look_bs, ⟨@Go.AM.under_app', @Go.AM.under_bs⟩⟩⟩⟩⟩⟩, ⟨⟨⟨⟨⟨@Go.AM.ixl_k, @Go.AM.lenL_list⟩, ⟨@Go.AM.lenL_str, ⟨@Go.AM.beq_app_k, @Go.AM.beq_kk⟩⟩⟩, ⟨⟨@Go.AM.fits_k, ⟨@Go.AM.fits_kr, @Go.AM.slice_box⟩⟩, ⟨@Go.AM.fillL_nil, ⟨@Go.AM.len_map', @List.length_append.{0}⟩⟩⟩⟩, ⟨⟨⟨@List.getD_cons_zero.{0}, @List.getD_cons_succ.{0}⟩, ⟨@Go.AM.cellsEq.eq_1, ⟨@List.getD_nil.{0}, @List.length_set.{0}⟩⟩⟩, ⟨⟨@Nat.zero_lt_succ, ⟨@Nat.lt_irrefl, @List.set_cons_zero.{0}⟩⟩, ⟨@List.set_cons_succ.{0}, ⟨@Nat.le_refl, @Go.AM.fitsL.eq_1⟩⟩⟩⟩⟩, ⟨⟨⟨⟨@Go.AM.fitsL.eq_2, @Go.AM.fitsL.eq_3⟩, ⟨@Go.AM.AV.beq.go.eq_1, ⟨@Go.AM.AV.beq.go.eq_2, @Go.AM.AV.beq.go.eq_3⟩⟩⟩, ⟨⟨@Go.AM.AV.beq.eq_1, ⟨@Go.AM.AV.beq.eq_2, @Go.AM.AV.beq.eq_3⟩⟩, ⟨@Go.AM.AV.beq.eq_4, ⟨@Go.AM.AV.beq.eq_5, @Go.AM.AV.beq.eq_6⟩⟩⟩⟩, ⟨⟨⟨@Go.AM.AV.beq.eq_7, @Go.AM.AV.beq.eq_8⟩, ⟨@Go.AM.AV.beq.eq_9, ⟨@Go.AM.AV.beq.eq_10, @Go.AM.AV.beq.eq_11⟩⟩⟩, ⟨⟨@Go.AM.AV.beq.eq_12, ⟨@List.length_nil.{0}, @List.length_cons.{0}⟩⟩, ⟨@Go.AM.AV.cells.eq_1, ⟨@Go.AM.AV.cells.eq_2, @Int.toNat_natCast⟩⟩⟩⟩⟩⟩⟩
theorem WR_ :
  (((type_of% @Go.AM.wc_length ∧ (type_of% @Go.AM.wc_under ∧ type_of% @Go.AM.wA_low)) ∧ (type_of% @Go.AM.look_wc ∧ (type_of% @Go.AM.beq_wc ∧ type_of% @Go.AM.fits_wc))) ∧ ((type_of% @Go.AM.ixl_w ∧ (type_of% @Go.AM.take_wc ∧ type_of% @Go.AM.take_wk)) ∧ (type_of% @Go.AM.drop_wc ∧ (type_of% @Go.AM.shift_rop ∧ type_of% @Go.AM.load1_rop)))) :=
  ⟨⟨⟨@Go.AM.wc_length, ⟨@Go.AM.wc_under, @Go.AM.wA_low⟩⟩, ⟨@Go.AM.look_wc, ⟨@Go.AM.beq_wc, @Go.AM.fits_wc⟩⟩⟩, ⟨⟨@Go.AM.ixl_w, ⟨@Go.AM.take_wc, @Go.AM.take_wk⟩⟩, ⟨@Go.AM.drop_wc, ⟨@Go.AM.shift_rop, @Go.AM.load1_rop⟩⟩⟩⟩
theorem CHK_ :
  (((type_of% @Go.AM.mvK_cons ∧ type_of% @Go.AM.okAll_nil) ∧ (type_of% @Go.AM.okAll_cons ∧ (type_of% @Go.AM.leftC_nil ∧ type_of% @Go.AM.leftC_cons))) ∧ ((type_of% @Go.AM.okC_true ∧ type_of% @Go.AM.okC_false) ∧ (type_of% @Go.AM.sameV_some ∧ (type_of% @List.contains_cons.{0} ∧ type_of% @List.contains_nil.{0})))) :=
  ⟨⟨⟨@Go.AM.mvK_cons, @Go.AM.okAll_nil⟩, ⟨@Go.AM.okAll_cons, ⟨@Go.AM.leftC_nil, @Go.AM.leftC_cons⟩⟩⟩, ⟨⟨@Go.AM.okC_true, @Go.AM.okC_false⟩, ⟨@Go.AM.sameV_some, ⟨@List.contains_cons.{0}, @List.contains_nil.{0}⟩⟩⟩⟩
end Go.AM
namespace Go.AM
open Go
set_option maxRecDepth 20000
def y4o1 (c : Nat → FuncId) : LCode := (.sq [(zs 23 (.mv true (.t 0))), (zs 24 (.call (.f (c 0)) [(.t 23), (zi 1)])), (zs 0 (.mv true (.t 24)))])
def y4o2 (c : Nat → FuncId) : LCode := (.sq [(zs 25 (.mv true (.t 0))), (zs 26 (.call (.f (c 0)) [(.t 25), (zi 0)])), (zs 0 (.mv true (.t 26)))])
def y4o3 (c : Nat → FuncId) : LCode := (.tree (.rd (zs 28 (.shift 16 (.t 6))) 1 true (.rd (zs 29 (.load1 false (.t 28))) 2 true (.rd (zs 30 (.len .str (.t 29))) 3 true (.rd (zs 32 (.shift 16 (.t 6))) 5 true (.rd (zs 33 (.load1 false (.t 32))) 6 true (.mv (zs 27 (.mv true (.t 0))) [] (.mv (zs 31 (.call (.f (c 0)) [(.t 27), (.t 30)])) [0, 1, 2, 3] (.mv (zs 34 (.app ⟨1, false, 1, (.s (.int .u8 0))⟩ true (.t 31) (.t 33))) [0, 1, 2, 3, 4, 5, 6] (.mv (zs 0 (.mv true (.t 34))) [0, 1, 2, 3, 4, 5, 6, 7] .done .stop) .stop) .stop) .stop)))))))
def y4o4 (c : Nat → FuncId) : LCode := (.seq (.seq (.sq [(zs 21 (.shift 17 (.t 6))), (zs 22 (.load1 false (.t 21)))]) (.cond (.t 22) (y4o1 c) (y4o2 c))) (y4o3 c))
def y4o5 (c : Nat → FuncId) : LCode := (.seq (.sq [(zs 17 (.mv true (.t 0))), (zs 18 (.shift 0 (.t 6))), (zs 19 (.slc (.arr 16 1) (.t 18) none none none)), (zs 20 (.app ⟨1, false, 1, (.s (.int .u8 0))⟩ false (.t 17) (.t 19))), (zs 0 (.mv true (.t 20)))]) (y4o4 c))
def y4o6 (c : Nat → FuncId) : LCode := (.seq (.block 1 (.seq (.sq [(zs 15 (.ixa (.sl 18) (.t 11) (.t 13))), (zs 16 (.loadA 18 (.t 15))), (zs 6 (.alloc true (zk ++ [(.s (.str [])), (.s (.bool false))]))), (zn (.store 18 (.t 6) (.t 16)))]) (y4o5 c))) (.sq [(zs 35 (.bin .add .sc (.t 13) (zi 1))), (zs 13 (.mv false (.t 35)))]))
def y4o7 (c : Nat → FuncId) : LCode := (.seq (.sq [(zs 14 (.bin .lss .sc (.t 13) (.t 12)))]) (.seq (.cond (.t 14) .skip (.exit 0)) (y4o6 c)))
def y4o8 (c : Nat → FuncId) : LCode := (.block 0 (.loop (zm false [0, 1, 10, 3, 23]) (y4o7 c)))
def y4o9 (c : Nat → FuncId) : LCode := (.seq (.seq (.sq [(zs 11 (.mv false (.t 1))), (zs 12 (.len .sl (.t 11))), (zs 13 (.mv false (zi 0)))]) (y4o8 c)) (.seq (.sq [(zs 36 (.mv true (.t 0))), (zs 4 (.mv true (.t 36)))]) .ret))
def y4o10 (c : Nat → FuncId) : LCode := (.seq (.sq [(zs 7 (.mv true (.t 0))), (zs 8 (.mv false (.t 1))), (zs 9 (.len .sl (.t 8))), (zs 10 (.call (.f (c 0)) [(.t 7), (.t 9)])), (zs 0 (.mv true (.t 10)))]) (y4o9 c))
def U_rec_PutWrites (c : Nat → FuncId) := PLift.up (zc (zc (zc (@unfC _ _ (y4o1.eq_1 c)) (@unfC _ _ (y4o2.eq_1 c))) (zc (@unfC _ _ (y4o3.eq_1 c)) (zc (@unfC _ _ (y4o4.eq_1 c)) (@unfC _ _ (y4o5.eq_1 c))))) (zc (zc (@unfC _ _ (y4o6.eq_1 c)) (@unfC _ _ (y4o7.eq_1 c))) (zc (@unfC _ _ (y4o8.eq_1 c)) (zc (@unfC _ _ (y4o9.eq_1 c)) (@unfC _ _ (y4o10.eq_1 c))))))
def C_rec_PutWrites (c : Nat → FuncId) : LFn := ⟨37, [.t 4], (.seq (.sq [(zs 4 (.mv true (.c .nilS)))]) (y4o10 c))⟩
def y4q1 : LCode := (.sq [(zs 15 (.mv false (.t 5))), (zs 16 (.bin .add .sc (.t 15) (zi 1))), (zs 5 (.mv true (.t 16)))])
def y4q2 : LCode := (.seq (.block 1 (.seq (.tree (.rd (zs 17 (.mv false (.t 0))) 0 false (.rd (zs 18 (.mv false (.t 5))) 1 false (.rd (zs 19 (.ixa (.sl 18) (.t 17) (.t 18))) 2 false (.rd (zs 20 (.loadA 18 (.t 19))) 3 false (.rd (zs 21 (.mv false (.t 1))) 4 false (.rd (zs 22 (.mv false (.t 5))) 5 false (.rd (zs 23 (.ixa (.sl 18) (.t 21) (.t 22))) 6 false (.rd (zs 24 (.loadA 18 (.t 23))) 7 false (.rd (zs 25 (.bin .neq (.leaf (lk ++ [.str, .bool])) (.t 20) (.t 24))) 8 false .done)))))))))) (.cond (.t 25) (.seq (.sq [(zs 4 (.mv true zF))]) .ret) .skip))) y4q1)
def y4q3 : LCode := (.seq (.seq (.sq [(zs 11 (.mv false (.t 5))), (zs 12 (.mv false (.t 0))), (zs 13 (.len .sl (.t 12))), (zs 14 (.bin .lss .sc (.t 11) (.t 13)))]) (.cond (.t 14) .skip (.exit 0))) y4q2)
def y4q4 : LCode := (.block 0 (.loop (zm false [0, 2, 3, 1, 20]) y4q3))
def y4q5 : LCode := (.seq (.seq (.sq [(zs 5 (.mv true (zi 0)))]) y4q4) (.seq (.sq [(zs 4 (.mv true zT))]) .ret))
def y4q6 : LCode := (.seq (.seq (.sq [(zs 6 (.mv false (.t 0))), (zs 7 (.len .sl (.t 6))), (zs 8 (.mv false (.t 1))), (zs 9 (.len .sl (.t 8))), (zs 10 (.bin .neq .sc (.t 7) (.t 9)))]) (.cond (.t 10) (.seq (.sq [(zs 4 (.mv true zF))]) .ret) .skip)) y4q5)
def U_hourglassref10_Writes := PLift.up (zc (zc (@unfC _ _ (y4q1.eq_1)) (zc (@unfC _ _ (y4q2.eq_1)) (@unfC _ _ (y4q3.eq_1)))) (zc (@unfC _ _ (y4q4.eq_1)) (zc (@unfC _ _ (y4q5.eq_1)) (@unfC _ _ (y4q6.eq_1)))))
def C_hourglassref10_Writes : LFn := ⟨26, [.t 4], (.seq (.sq [(zs 4 (.mv true zF))]) y4q6)⟩
def y4t1 (c : Nat → FuncId) : LCode := (.sq [(zs 32 (.mv true (.t 0))), (zs 33 (.mv false (.t 1))), (zs 34 (.mv false (.t 5))), (zs 35 (.ixa (.sl 18) (.t 33) (.t 34))), (zs 36 (.shift 16 (.t 35))), (zs 37 (.load1 false (.t 36))), (zs 38 (.call (.f (c 2)) [(.t 32), (.t 37)])), (zs 0 (.mv true (.t 38)))])
def y4t2 (c : Nat → FuncId) : LCode := (.sq [(zs 15 (.mv false (.t 5))), (zs 16 (.bin .add .sc (.t 15) (zi 1))), (zs 5 (.mv true (.t 16)))])
def y4t3 (c : Nat → FuncId) : LCode := (.seq (.block 1 (.seq (.tree (.rd (zs 18 (.mv false (.t 1))) 1 true (.rd (zs 19 (.mv false (.t 5))) 2 true (.rd (zs 20 (.ixa (.sl 18) (.t 18) (.t 19))) 3 true (.rd (zs 21 (.shift 0 (.t 20))) 4 true (.rd (zs 22 (.slc (.arr 16 1) (.t 21) none none none)) 5 true (.rd (zs 24 (.mv false (.t 1))) 7 true (.rd (zs 25 (.mv false (.t 5))) 8 true (.rd (zs 26 (.ixa (.sl 18) (.t 24) (.t 25))) 9 true (.rd (zs 27 (.shift 17 (.t 26))) 10 true (.rd (zs 28 (.load1 false (.t 27))) 11 true (.mv (zs 17 (.mv true (.t 0))) [] (.mv (zs 23 (.app ⟨1, false, 1, (.s (.int .u8 0))⟩ false (.t 17) (.t 22))) [0, 1, 2, 3, 4, 5] (.mv (zs 29 (.call (.f (c 1)) [(.t 28)])) [0, 1, 2, 3, 4, 5, 6, 7, 8, 9, 10, 11] (.rd (zs 30 (.bsl ⟨1, false, 1, (.s (.int .u8 0))⟩ 1 [(0, (.t 29))])) 13 false (.mv (zs 31 (.app ⟨1, false, 1, (.s (.int .u8 0))⟩ false (.t 23) (.t 30))) [0, 1, 2, 3, 4, 5, 6, 7, 8, 9, 10, 11, 12, 13] (.mv (zs 0 (.mv true (.t 31))) [0, 1, 2, 3, 4, 5, 6, 7, 8, 9, 10, 11, 12, 13, 14] .done .stop) .stop)) .stop) .stop) .stop)))))))))))) (y4t1 c))) (y4t2 c))
def y4t4 (c : Nat → FuncId) : LCode := (.seq (.seq (.sq [(zs 11 (.mv false (.t 5))), (zs 12 (.mv false (.t 1))), (zs 13 (.len .sl (.t 12))), (zs 14 (.bin .lss .sc (.t 11) (.t 13)))]) (.cond (.t 14) .skip (.exit 0))) (y4t3 c))
def y4t5 (c : Nat → FuncId) : LCode := (.block 0 (.loop (zm false [0, 2, 3, 1, 34]) (y4t4 c)))
def y4t6 (c : Nat → FuncId) : LCode := (.seq (.seq (.sq [(zs 5 (.mv true (zi 0)))]) (y4t5 c)) (.seq (.sq [(zs 39 (.mv true (.t 0))), (zs 4 (.mv true (.t 39)))]) .ret))
def y4t7 (c : Nat → FuncId) : LCode := (.seq (.sq [(zs 6 (.mv true (.t 0))), (zs 7 (.mv false (.t 1))), (zs 8 (.len .sl (.t 7))), (zs 9 (.conv (.int .u64) (.t 8))), (zs 10 (.call (.f (c 0)) [(.t 6), (.t 9)])), (zs 0 (.mv true (.t 10)))]) (y4t6 c))
def U_hourglassref14_PutWrites (c : Nat → FuncId) := PLift.up (zc (zc (@unfC _ _ (y4t1.eq_1 c)) (zc (@unfC _ _ (y4t2.eq_1 c)) (@unfC _ _ (y4t3.eq_1 c)))) (zc (zc (@unfC _ _ (y4t4.eq_1 c)) (@unfC _ _ (y4t5.eq_1 c))) (zc (@unfC _ _ (y4t6.eq_1 c)) (@unfC _ _ (y4t7.eq_1 c)))))
def C_hourglassref14_PutWrites (c : Nat → FuncId) : LFn := ⟨40, [.t 4], (.seq (.sq [(zs 4 (.mv true (.c .nilS)))]) (y4t7 c))⟩
def y4u1 (c : Nat → FuncId) : LCode := (.seq (.sq [(zs 12 (.mv false (.t 0))), (zs 13 (.call (.f (c 1)) [(.t 12)]))]) (.seq (.sq [(zs 4 (.mv true (zi 0)))]) .ret))
def y4u2 (c : Nat → FuncId) : LCode := (.seq (.sq [(zs 14 (.mv false (.t 5))), (zs 15 (.conv (.int .i64) (.t 14))), (zs 4 (.mv true (.t 15)))]) .ret)
def y4u3 (c : Nat → FuncId) : LCode := (.seq (.seq (.sq [(zs 8 (.mv false (.t 5))), (zs 9 (.mv false (.t 1))), (zs 10 (.conv (.int .u64) (.t 9))), (zs 11 (.bin .gtr .sc (.t 8) (.t 10)))]) (.cond (.t 11) (y4u1 c) .skip)) (y4u2 c))
def y4u4 (c : Nat → FuncId) : LCode := (.seq (.sq [(zs 6 (.mv false (.t 0))), (zs 7 (.call (.f (c 0)) [(.t 6)])), (zs 5 (.mv true (.t 7)))]) (y4u3 c))
def U_rec_Reader_Most (c : Nat → FuncId) := PLift.up (zc (zc (@unfC _ _ (y4u1.eq_1 c)) (@unfC _ _ (y4u2.eq_1 c))) (zc (@unfC _ _ (y4u3.eq_1 c)) (@unfC _ _ (y4u4.eq_1 c))))
def C_rec_Reader_Most (c : Nat → FuncId) : LFn := ⟨16, [.t 4], (.seq (.sq [(zs 4 (.mv true (zi 0)))]) (y4u4 c))⟩
def y4v1 : LCode := (.seq (.sq [(zs 3 (.mv false (.t 0))), (zs 4 (.bin .shr .sc (.t 3) (.c (.int .u64 1)))), (zs 5 (.conv (.int .i64) (.t 4))), (zs 6 (.mv false (.t 0))), (zs 7 (.bin .and .sc (.t 6) (.c (.int .u64 1)))), (zs 8 (.conv (.int .i64) (.t 7))), (zs 9 (.un .neg (.t 8))), (zs 10 (.bin .xor .sc (.t 5) (.t 9))), (zs 2 (.mv true (.t 10)))]) .ret)
def U_bits_Zag := PLift.up (@unfC _ _ (y4v1.eq_1))
def C_bits_Zag : LFn := ⟨11, [.t 2], (.seq (.sq [(zs 2 (.mv true (zi 0)))]) y4v1)⟩
def y4w1 (c : Nat → FuncId) : LCode := (.seq (.sq [(zs 17 (.mv false (.t 0))), (zs 18 (.call (.f (c 1)) [(.t 17)]))]) (.seq (.sq [(zs 2 (.mv true (.c (.int .u64 0))))]) .ret))
def y4w2 (c : Nat → FuncId) : LCode := (.seq (.sq [(zs 19 (.mv false (.t 0))), (zs 20 (.mv false (.t 0))), (zs 21 (.nilc (.t 20))), (zs 22 (.shift 0 (.t 21))), (zs 23 (.load1 false (.t 22))), (zs 24 (.mv false (.t 4))), (zs 25 (.slc (.sl 1) (.t 23) (some (.t 24)) none none)), (zs 26 (.nilc (.t 19))), (zs 27 (.shift 0 (.t 26))), (zn (.store 1 (.t 27) (.t 25)))]) (.seq (.sq [(zs 28 (.mv false (.t 3))), (zs 2 (.mv true (.t 28)))]) .ret))
def y4w3 (c : Nat → FuncId) : LCode := (.seq (.seq (.sq [(zs 15 (.mv false (.t 5))), (zs 16 (.bin .neq .sc (.t 15) (zi 0)))]) (.cond (.t 16) (y4w1 c) .skip)) (y4w2 c))
def y4w4 (c : Nat → FuncId) : LCode := (.seq (.sq [(zs 7 (.mv false (.t 0))), (zs 8 (.nilc (.t 7))), (zs 9 (.shift 0 (.t 8))), (zs 10 (.load1 false (.t 9))), (zs 11 (.call (.f (c 0)) [(.t 10)])), (zs 6 (.mv false (.t 11))), (zs 12 (.ext (.t 6) 0)), (zs 13 (.ext (.t 6) 1)), (zs 14 (.ext (.t 6) 2)), (zs 3 (.mv true (.t 12))), (zs 4 (.mv true (.t 13))), (zs 5 (.mv true (.t 14)))]) (y4w3 c))
def U_rec_Reader_Num (c : Nat → FuncId) := PLift.up (zc (zc (@unfC _ _ (y4w1.eq_1 c)) (@unfC _ _ (y4w2.eq_1 c))) (zc (@unfC _ _ (y4w3.eq_1 c)) (@unfC _ _ (y4w4.eq_1 c))))
def C_rec_Reader_Num (c : Nat → FuncId) : LFn := ⟨29, [.t 2], (.seq (.sq [(zs 2 (.mv true (.c (.int .u64 0))))]) (y4w4 c))⟩
def y4x1 (c : Nat → FuncId) : LCode := (.seq (.seq (.sq [(zs 11 (.mv false (.t 4))), (zs 12 (.bin .neq .sc (.t 11) (zi 0)))]) (.cond (.t 12) (.sq [(zs 13 (.mv false (.t 0))), (zs 14 (.call (.f (c 2)) [(.t 13)]))]) .skip)) (.seq (.sq [(zs 15 (.loadA 2 (.t 3))), (zn (.store 2 (.t 2) (.t 15)))]) .ret))
def y4x2 (c : Nat → FuncId) : LCode := (.seq (.sq [(zs 6 (.mv false (.t 0))), (zs 7 (.call (.f (c 0)) [(.t 6)])), (zs 8 (.call (.f (c 1)) [(.t 7)])), (zs 5 (.mv false (.t 8))), (zs 9 (.ext (.t 5) 0)), (zs 10 (.ext (.t 5) 1)), (zs 3 (.alloc false [(.s (.int .i64 0)), (.s (.int .u8 0))])), (zn (.store 2 (.t 3) (.t 9))), (zs 4 (.mv true (.t 10)))]) (y4x1 c))
def U_rec_Reader_Stamp (c : Nat → FuncId) := PLift.up (zc (@unfC _ _ (y4x1.eq_1 c)) (@unfC _ _ (y4x2.eq_1 c)))
def C_rec_Reader_Stamp (c : Nat → FuncId) : LFn := ⟨16, [.many 2 2], (.seq (.sq [(zs 2 (.alloc false [(.s (.int .i64 0)), (.s (.int .u8 0))]))]) (y4x2 c))⟩
def y4y1 (c : Nat → FuncId) : LCode := (.sq [(zs 21 (.mv true (.t 3))), (zs 22 (.loadA 18 (.t 4))), (zs 23 (.bsl ⟨18, true, 40, (.agg (zk ++ [(.s (.str [])), (.s (.bool false))]))⟩ 1 [(0, (.t 22))])), (zs 24 (.app ⟨18, true, 40, (.agg (zk ++ [(.s (.str [])), (.s (.bool false))]))⟩ false (.t 21) (.t 23))), (zs 3 (.mv true (.t 24)))])
def y4y2 (c : Nat → FuncId) : LCode := (.seq (.sq [(zs 16 (.mv false (.t 0))), (zs 17 (.mv false (.t 0))), (zs 18 (.call (.f (c 0)) [(.t 17), (zi 200)])), (zs 19 (.call (.f (c 2)) [(.t 16), (.t 18)])), (zs 20 (.shift 16 (.t 4))), (zn (.store 1 (.t 20) (.t 19)))]) (y4y1 c))
def y4y3 (c : Nat → FuncId) : LCode := (.seq (.sq [(zs 12 (.mv false (.t 0))), (zs 13 (.call (.f (c 0)) [(.t 12), (zi 1)])), (zs 14 (.bin .eql .sc (.t 13) (zi 1))), (zs 15 (.shift 17 (.t 4))), (zn (.store 1 (.t 15) (.t 14)))]) (y4y2 c))
def y4y4 (c : Nat → FuncId) : LCode := (.seq (.block 1 (.seq (.sq [(zs 9 (.mv false (.t 0))), (zs 10 (.call (.f (c 1)) [(.t 9)])), (zs 11 (.build (zk ++ [(.s (.str [])), (.s (.bool false))]) [(0, 16, (.t 10))])), (zs 4 (.alloc false (zk ++ [(.s (.str [])), (.s (.bool false))]))), (zn (.store 18 (.t 4) (.t 11)))]) (y4y3 c))) (.sq [(zs 25 (.bin .add .sc (.t 7) (zi 1))), (zs 7 (.mv false (.t 25)))]))
def y4y5 (c : Nat → FuncId) : LCode := (.seq (.sq [(zs 8 (.bin .lss .sc (.t 7) (.t 6)))]) (.seq (.cond (.t 8) .skip (.exit 0)) (y4y4 c)))
def y4y6 (c : Nat → FuncId) : LCode := (.block 0 (.loop (zm false [0, 1, 2, 1, 2, 2, 24]) (y4y5 c)))
def y4y7 (c : Nat → FuncId) : LCode := (.seq (.seq (.sq [(zs 26 (.mv false (.t 3))), (zs 27 (.call (.f (c 3)) [(.t 26)])), (zs 28 (.un .not (.t 27)))]) (.cond (.t 28) (.sq [(zs 29 (.mv false (.t 0))), (zs 30 (.call (.f (c 4)) [(.t 29)]))]) .skip)) (.seq (.sq [(zs 31 (.mv true (.t 3))), (zs 2 (.mv true (.t 31)))]) .ret))
def y4y8 (c : Nat → FuncId) : LCode := (.seq (.seq (.sq [(zs 5 (.mv false (.t 0))), (zs 6 (.call (.f (c 0)) [(.t 5), (zi 16)])), (zs 7 (.mv false (zi 0)))]) (y4y6 c)) (y4y7 c))
def U_rec_Reader_Writes (c : Nat → FuncId) := PLift.up (zc (zc (zc (@unfC _ _ (y4y1.eq_1 c)) (@unfC _ _ (y4y2.eq_1 c))) (zc (@unfC _ _ (y4y3.eq_1 c)) (@unfC _ _ (y4y4.eq_1 c)))) (zc (zc (@unfC _ _ (y4y5.eq_1 c)) (@unfC _ _ (y4y6.eq_1 c))) (zc (@unfC _ _ (y4y7.eq_1 c)) (@unfC _ _ (y4y8.eq_1 c)))))
def C_rec_Reader_Writes (c : Nat → FuncId) : LFn := ⟨32, [.t 2], (.seq (.sq [(zs 2 (.mv true (.c .nilS)))]) (.seq (.sq [(zs 3 (.mv true (.c .nilS)))]) (y4y8 c)))⟩
def y4z1 (c : Nat → FuncId) : LCode := (.seq (.sq [(zs 11 (.mv false (.t 0))), (zs 12 (.nilc (.t 11))), (zs 13 (.shift 2 (.t 12))), (zn (.store 1 (.t 13) zT))]) (.seq (.sq [(zs 4 (.mv true (zi 0)))]) .ret))
def y4z2 (c : Nat → FuncId) : LCode := (.seq (.sq [(zs 14 (.mv false (.t 5))), (zs 15 (.conv (.int .i64) (.t 14))), (zs 4 (.mv true (.t 15)))]) .ret)
def y4z3 (c : Nat → FuncId) : LCode := (.seq (.seq (.sq [(zs 8 (.mv false (.t 5))), (zs 9 (.mv false (.t 1))), (zs 10 (.bin .gtr .sc (.t 8) (.t 9)))]) (.cond (.t 10) (y4z1 c) .skip)) (y4z2 c))
def y4z4 (c : Nat → FuncId) : LCode := (.seq (.sq [(zs 6 (.mv false (.t 0))), (zs 7 (.call (.f (c 0)) [(.t 6)])), (zs 5 (.mv true (.t 7)))]) (y4z3 c))
def U_hourglassref14_Count (c : Nat → FuncId) := PLift.up (zc (zc (@unfC _ _ (y4z1.eq_1 c)) (@unfC _ _ (y4z2.eq_1 c))) (zc (@unfC _ _ (y4z3.eq_1 c)) (@unfC _ _ (y4z4.eq_1 c))))
def C_hourglassref14_Count (c : Nat → FuncId) : LFn := ⟨16, [.t 4], (.seq (.sq [(zs 4 (.mv true (zi 0)))]) (y4z4 c))⟩
def y4aa1 : LCode := (.seq (.sq [(zs 6 (.mv false (.t 0))), (zs 7 (.bin .quo .sc (.t 6) (.c (.int .u64 2)))), (zs 8 (.conv (.int .i64) (.t 7))), (zs 2 (.mv true (.t 8)))]) .ret)
def y4aa2 : LCode := (.seq (.sq [(zs 9 (.mv false (.t 0))), (zs 10 (.bin .quo .sc (.t 9) (.c (.int .u64 2)))), (zs 11 (.conv (.int .i64) (.t 10))), (zs 12 (.un .neg (.t 11))), (zs 13 (.bin .sub .sc (.t 12) (zi 1))), (zs 2 (.mv true (.t 13)))]) .ret)
def y4aa3 : LCode := (.seq (.seq (.sq [(zs 3 (.mv false (.t 0))), (zs 4 (.bin .rem .sc (.t 3) (.c (.int .u64 2)))), (zs 5 (.bin .eql .sc (.t 4) (.c (.int .u64 0))))]) (.cond (.t 5) y4aa1 .skip)) y4aa2)
def U_hourglassref1_Zag := PLift.up (zc (@unfC _ _ (y4aa1.eq_1)) (zc (@unfC _ _ (y4aa2.eq_1)) (@unfC _ _ (y4aa3.eq_1))))
def C_hourglassref1_Zag : LFn := ⟨14, [.t 2], (.seq (.sq [(zs 2 (.mv true (zi 0)))]) y4aa3)⟩
def y4ab1 (c : Nat → FuncId) : LCode := (.seq (.sq [(zs 24 (.mv false (.t 0))), (zs 25 (.nilc (.t 24))), (zs 26 (.shift 2 (.t 25))), (zn (.store 1 (.t 26) zT))]) (.seq (.sq [(zs 2 (.mv true (.c (.int .u64 0))))]) .ret))
def y4ab2 (c : Nat → FuncId) : LCode := (.seq (.sq [(zs 27 (.mv false (.t 0))), (zs 28 (.mv false (.t 0))), (zs 29 (.nilc (.t 28))), (zs 30 (.shift 1 (.t 29))), (zs 31 (.load1 false (.t 30))), (zs 32 (.mv false (.t 4))), (zs 33 (.bin .add .sc (.t 31) (.t 32))), (zs 34 (.nilc (.t 27))), (zs 35 (.shift 1 (.t 34))), (zn (.store 1 (.t 35) (.t 33)))]) (.seq (.sq [(zs 36 (.mv false (.t 3))), (zs 2 (.mv true (.t 36)))]) .ret))
def y4ab3 (c : Nat → FuncId) : LCode := (.seq (.seq (.sq [(zs 22 (.mv false (.t 4))), (zs 23 (.bin .eql .sc (.t 22) (zi 0)))]) (.cond (.t 23) (y4ab1 c) .skip)) (y4ab2 c))
def y4ab4 (c : Nat → FuncId) : LCode := (.seq (.tree (.rd (zs 10 (.mv false (.t 0))) 0 false (.rd (zs 11 (.nilc (.t 10))) 1 false (.rd (zs 12 (.shift 0 (.t 11))) 2 false (.rd (zs 13 (.load1 false (.t 12))) 3 false (.rd (zs 14 (.mv false (.t 0))) 4 false (.rd (zs 15 (.nilc (.t 14))) 5 false (.rd (zs 16 (.shift 1 (.t 15))) 6 false (.rd (zs 17 (.load1 false (.t 16))) 7 false (.rd (zs 18 (.slc (.sl 1) (.t 13) (some (.t 17)) none none)) 8 false (.mv (zs 19 (.call (.f (c 0)) [(.t 18)])) [0, 1, 2, 3, 4, 5, 6, 7, 8] (.rd (zs 9 (.mv false (.t 19))) 10 false (.rd (zs 20 (.ext (.t 9) 0)) 11 false (.rd (zs 21 (.ext (.t 9) 1)) 12 true (.mv (zs 3 (.mv true (.t 20))) [0, 1, 2, 3, 4, 5, 6, 7, 8, 9, 10, 11] (.mv (zs 4 (.mv true (.t 21))) [0, 1, 2, 3, 4, 5, 6, 7, 8, 9, 10, 11, 12, 13] .done .stop) .stop)))) .stop))))))))))) (y4ab3 c))
def y4ab5 (c : Nat → FuncId) : LCode := (.seq (.seq (.sq [(zs 5 (.mv false (.t 0))), (zs 6 (.nilc (.t 5))), (zs 7 (.shift 2 (.t 6))), (zs 8 (.load1 false (.t 7)))]) (.cond (.t 8) (.seq (.sq [(zs 2 (.mv true (.c (.int .u64 0))))]) .ret) .skip)) (y4ab4 c))
def U_hourglassref1_Reader_Num (c : Nat → FuncId) := PLift.up (zc (zc (@unfC _ _ (y4ab1.eq_1 c)) (@unfC _ _ (y4ab2.eq_1 c))) (zc (@unfC _ _ (y4ab3.eq_1 c)) (zc (@unfC _ _ (y4ab4.eq_1 c)) (@unfC _ _ (y4ab5.eq_1 c)))))
def C_hourglassref1_Reader_Num (c : Nat → FuncId) : LFn := ⟨37, [.t 2], (.seq (.sq [(zs 2 (.mv true (.c (.int .u64 0))))]) (y4ab5 c))⟩
def y4ac1 (c : Nat → FuncId) : LCode := (.sq [(zs 13 (.mv false (.t 0))), (zs 14 (.nilc (.t 13))), (zs 15 (.shift 2 (.t 14))), (zn (.store 1 (.t 15) zT))])
def y4ac2 (c : Nat → FuncId) : LCode := (.seq (.seq (.sq [(zs 11 (.mv false (.t 4))), (zs 12 (.un .not (.t 11)))]) (.cond (.t 12) (y4ac1 c) .skip)) (.seq (.sq [(zs 16 (.loadA 2 (.t 3))), (zn (.store 2 (.t 2) (.t 16)))]) .ret))
def y4ac3 (c : Nat → FuncId) : LCode := (.seq (.sq [(zs 6 (.mv false (.t 0))), (zs 7 (.call (.f (c 0)) [(.t 6)])), (zs 8 (.call (.f (c 1)) [(.t 7)])), (zs 5 (.mv false (.t 8))), (zs 9 (.ext (.t 5) 0)), (zs 10 (.ext (.t 5) 1)), (zs 3 (.alloc false [(.s (.int .i64 0)), (.s (.int .u8 0))])), (zn (.store 2 (.t 3) (.t 9))), (zs 4 (.mv true (.t 10)))]) (y4ac2 c))
def U_hourglassref14_Stamp (c : Nat → FuncId) := PLift.up (zc (@unfC _ _ (y4ac1.eq_1 c)) (zc (@unfC _ _ (y4ac2.eq_1 c)) (@unfC _ _ (y4ac3.eq_1 c))))
def C_hourglassref14_Stamp (c : Nat → FuncId) : LFn := ⟨17, [.many 2 2], (.seq (.sq [(zs 2 (.alloc false [(.s (.int .i64 0)), (.s (.int .u8 0))]))]) (y4ac3 c))⟩
def y4ad1 (c : Nat → FuncId) : LCode := (.sq [(zs 29 (.mv true (.t 4))), (zs 30 (.loadA 18 (.t 6))), (zs 31 (.bsl ⟨18, true, 40, (.agg (zk ++ [(.s (.str [])), (.s (.bool false))]))⟩ 1 [(0, (.t 30))])), (zs 32 (.app ⟨18, true, 40, (.agg (zk ++ [(.s (.str [])), (.s (.bool false))]))⟩ false (.t 29) (.t 31))), (zs 4 (.mv true (.t 32)))])
def y4ad2 (c : Nat → FuncId) : LCode := (.seq (.sq [(zs 26 (.mv false (.t 0))), (zs 27 (.call (.f (c 3)) [(.t 26)])), (zs 28 (.shift 16 (.t 6))), (zn (.store 1 (.t 28) (.t 27)))]) (y4ad1 c))
def y4ad3 (c : Nat → FuncId) : LCode := (.sq [(zs 19 (.mv false (.t 5))), (zs 20 (.bin .add .sc (.t 19) (zi 1))), (zs 5 (.mv true (.t 20)))])
def y4ad4 (c : Nat → FuncId) : LCode := (.seq (.block 1 (.seq (.sq [(zs 21 (.mv false (.t 0))), (zs 22 (.call (.f (c 1)) [(.t 21)])), (zs 23 (.mv false (.t 0))), (zs 24 (.call (.f (c 2)) [(.t 23)])), (zs 25 (.build (zk ++ [(.s (.str [])), (.s (.bool false))]) [(0, 16, (.t 22)), (17, 1, (.t 24))])), (zs 6 (.alloc false (zk ++ [(.s (.str [])), (.s (.bool false))]))), (zn (.store 18 (.t 6) (.t 25)))]) (y4ad2 c))) (y4ad3 c))
def y4ad5 (c : Nat → FuncId) : LCode := (.seq (.seq (.sq [(zs 9 (.mv false (.t 5))), (zs 10 (.mv false (.t 3))), (zs 11 (.bin .lss .sc (.t 9) (.t 10))), (zs 12 (.mv false (.t 11))), (zt 13 12 (.mv false (.t 0))), (zt 14 12 (.nilc (.t 13))), (zt 15 12 (.shift 2 (.t 14))), (zt 16 12 (.load1 false (.t 15))), (zt 17 12 (.un .not (.t 16))), (zs 18 (.pick (.t 12) (.t 17) zF))]) (.cond (.t 18) .skip (.exit 0))) (y4ad4 c))
def y4ad6 (c : Nat → FuncId) : LCode := (.block 0 (.loop (zm false [0, 1, 2, 3, 34]) (y4ad5 c)))
def y4ad7 (c : Nat → FuncId) : LCode := (.sq [(zs 36 (.mv false (.t 0))), (zs 37 (.nilc (.t 36))), (zs 38 (.shift 2 (.t 37))), (zn (.store 1 (.t 38) zT))])
def y4ad8 (c : Nat → FuncId) : LCode := (.seq (.seq (.sq [(zs 33 (.mv false (.t 4))), (zs 34 (.call (.f (c 4)) [(.t 33), (zi 0)])), (zs 35 (.un .not (.t 34)))]) (.cond (.t 35) (y4ad7 c) .skip)) (.seq (.sq [(zs 39 (.mv true (.t 4))), (zs 2 (.mv true (.t 39)))]) .ret))
def y4ad9 (c : Nat → FuncId) : LCode := (.seq (.seq (.sq [(zs 5 (.mv true (zi 0)))]) (y4ad6 c)) (y4ad8 c))
def y4ad10 (c : Nat → FuncId) : LCode := (.seq (.sq [(zs 7 (.mv false (.t 0))), (zs 8 (.call (.f (c 0)) [(.t 7), (.c (.int .u64 16))])), (zs 3 (.mv true (.t 8)))]) (.seq (.sq [(zs 4 (.mv true (.c .nilS)))]) (y4ad9 c)))
def U_hourglassref14_Writes (c : Nat → FuncId) := PLift.up (zc (zc (zc (@unfC _ _ (y4ad1.eq_1 c)) (@unfC _ _ (y4ad2.eq_1 c))) (zc (@unfC _ _ (y4ad3.eq_1 c)) (zc (@unfC _ _ (y4ad4.eq_1 c)) (@unfC _ _ (y4ad5.eq_1 c))))) (zc (zc (@unfC _ _ (y4ad6.eq_1 c)) (@unfC _ _ (y4ad7.eq_1 c))) (zc (@unfC _ _ (y4ad8.eq_1 c)) (zc (@unfC _ _ (y4ad9.eq_1 c)) (@unfC _ _ (y4ad10.eq_1 c))))))
def C_hourglassref14_Writes (c : Nat → FuncId) : LFn := ⟨40, [.t 2], (.seq (.sq [(zs 2 (.mv true (.c .nilS)))]) (y4ad10 c))⟩
def y4ae1 (c : Nat → FuncId) : LCode := (.sq [(zs 8 (.mv false (.t 0))), (zs 9 (.nilc (.t 8))), (zs 10 (.shift 2 (.t 9))), (zn (.store 1 (.t 10) zT))])
def y4ae2 (c : Nat → FuncId) : LCode := (.seq (.sq [(zs 11 (.mv false (.t 3))), (zs 12 (.bin .eql .sc (.t 11) (.c (.int .u8 1)))), (zs 2 (.mv true (.t 12)))]) .ret)
def y4ae3 (c : Nat → FuncId) : LCode := (.seq (.seq (.sq [(zs 6 (.mv false (.t 3))), (zs 7 (.bin .gtr .sc (.t 6) (.c (.int .u8 1))))]) (.cond (.t 7) (y4ae1 c) .skip)) (y4ae2 c))
def y4ae4 (c : Nat → FuncId) : LCode := (.seq (.sq [(zs 4 (.mv false (.t 0))), (zs 5 (.call (.f (c 0)) [(.t 4)])), (zs 3 (.mv true (.t 5)))]) (y4ae3 c))
def U_hourglassref14_Bool (c : Nat → FuncId) := PLift.up (zc (zc (@unfC _ _ (y4ae1.eq_1 c)) (@unfC _ _ (y4ae2.eq_1 c))) (zc (@unfC _ _ (y4ae3.eq_1 c)) (@unfC _ _ (y4ae4.eq_1 c))))
def C_hourglassref14_Bool (c : Nat → FuncId) : LFn := ⟨13, [.t 2], (.seq (.sq [(zs 2 (.mv true zF))]) (y4ae4 c))⟩
def y4af1 : LCode := (.seq (.tree (.rd (zs 3 (.mv false (.t 0))) 0 false (.rd (zs 4 (.nilc (.t 3))) 1 false (.rd (zs 5 (.shift 2 (.t 4))) 2 false (.rd (zs 6 (.load1 false (.t 5))) 3 false (.rd (zs 7 (.un .not (.t 6))) 4 false (.rd (zs 8 (.mv false (.t 7))) 5 false (.rd (zt 9 8 (.mv false (.t 0))) 6 false (.rd (zt 10 8 (.nilc (.t 9))) 7 false (.rd (zt 11 8 (.shift 1 (.t 10))) 8 false (.rd (zt 12 8 (.load1 false (.t 11))) 9 false (.rd (zt 13 8 (.mv false (.t 0))) 10 false (.rd (zt 14 8 (.nilc (.t 13))) 11 false (.rd (zt 15 8 (.shift 0 (.t 14))) 12 false (.rd (zt 16 8 (.load1 false (.t 15))) 13 false (.rd (zt 17 8 (.len .sl (.t 16))) 14 false (.rd (zt 18 8 (.bin .eql .sc (.t 12) (.t 17))) 15 false (.rd (zs 19 (.pick (.t 8) (.t 18) zF)) 16 false (.mv (zs 2 (.mv true (.t 19))) [0, 1, 2, 3, 4, 5, 6, 7, 8, 9, 10, 11, 12, 13, 14, 15, 16] .done .stop))))))))))))))))))) .ret)
def U_hourglassref1_Reader_End := PLift.up (@unfC _ _ (y4af1.eq_1))
def C_hourglassref1_Reader_End : LFn := ⟨20, [.t 2], (.seq (.sq [(zs 2 (.mv true zF))]) y4af1)⟩
def y4ag1 : LCode := (.sq [(zs 17 (.mv false (.t 1))), (zs 18 (.bin .shr .sc (.t 17) (.c (.int .u64 7)))), (zs 1 (.mv true (.t 18)))])
def y4ag2 : LCode := (.block 1 (.seq (.sq [(zs 11 (.mv true (.t 5))), (zs 12 (.mv false (.t 1))), (zs 13 (.conv (.int .u8) (.t 12))), (zs 14 (.bin .or .sc (.t 13) (.c (.int .u8 128)))), (zs 15 (.bsl ⟨1, false, 1, (.s (.int .u8 0))⟩ 1 [(0, (.t 14))])), (zs 16 (.app ⟨1, false, 1, (.s (.int .u8 0))⟩ false (.t 11) (.t 15))), (zs 5 (.mv true (.t 16)))]) y4ag1))
def y4ag3 : LCode := (.seq (.seq (.sq [(zs 9 (.mv false (.t 1))), (zs 10 (.bin .gtr .sc (.t 9) (.c (.int .u64 127))))]) (.cond (.t 10) .skip (.exit 0))) y4ag2)
def y4ag4 : LCode := (.seq (.sq [(zs 19 (.mv true (.t 5))), (zs 20 (.mv false (.t 1))), (zs 21 (.conv (.int .u8) (.t 20))), (zs 22 (.bsl ⟨1, false, 1, (.s (.int .u8 0))⟩ 1 [(0, (.t 21))])), (zs 23 (.app ⟨1, false, 1, (.s (.int .u8 0))⟩ false (.t 19) (.t 22))), (zs 4 (.mv true (.t 23)))]) .ret)
def y4ag5 : LCode := (.seq (.block 0 (.loop (zm false [1, 1, 3, 1, 18]) y4ag3)) y4ag4)
def y4ag6 : LCode := (.seq (.sq [(zs 6 (.bsl ⟨1, false, 1, (.s (.int .u8 0))⟩ 0 [])), (zs 7 (.mv false (.t 0))), (zs 8 (.app ⟨1, false, 1, (.s (.int .u8 0))⟩ false (.t 6) (.t 7))), (zs 5 (.mv true (.t 8)))]) y4ag5)
def U_bits_Put := PLift.up (zc (zc (@unfC _ _ (y4ag1.eq_1)) (zc (@unfC _ _ (y4ag2.eq_1)) (@unfC _ _ (y4ag3.eq_1)))) (zc (@unfC _ _ (y4ag4.eq_1)) (zc (@unfC _ _ (y4ag5.eq_1)) (@unfC _ _ (y4ag6.eq_1)))))
def C_bits_Put : LFn := ⟨24, [.t 4], (.seq (.sq [(zs 4 (.mv true (.c .nilS)))]) y4ag6)⟩
def y4ah1 (c : Nat → FuncId) : LCode := (.seq (.sq [(zs 5 (.mv true (.t 0))), (zs 6 (.mv false (.t 1))), (zs 7 (.conv (.int .u64) (.t 6))), (zs 8 (.call (.f (c 0)) [(.t 5), (.t 7)])), (zs 4 (.mv true (.t 8)))]) .ret)
def U_rec_num (c : Nat → FuncId) := PLift.up (@unfC _ _ (y4ah1.eq_1 c))
def C_rec_num (c : Nat → FuncId) : LFn := ⟨9, [.t 4], (.seq (.sq [(zs 4 (.mv true (.c .nilS)))]) (y4ah1 c))⟩
def y4ai1 : LCode := (.seq (.sq [(zs 3 (.mv false (.t 0))), (zs 4 (.conv (.int .u64) (.t 3))), (zs 5 (.bin .shl .sc (.t 4) (.c (.int .u64 1)))), (zs 6 (.mv false (.t 0))), (zs 7 (.bin .shr .sc (.t 6) (.c (.int .u64 63)))), (zs 8 (.conv (.int .u64) (.t 7))), (zs 9 (.bin .xor .sc (.t 5) (.t 8))), (zs 2 (.mv true (.t 9)))]) .ret)
def U_bits_Zig := PLift.up (@unfC _ _ (y4ai1.eq_1))
def C_bits_Zig : LFn := ⟨10, [.t 2], (.seq (.sq [(zs 2 (.mv true (.c (.int .u64 0))))]) y4ai1)⟩
def y4ak1 (c : Nat → FuncId) : LCode := (.seq (.sq [(zs 5 (.bsl ⟨1, false, 1, (.s (.int .u8 0))⟩ 0 [])), (zs 6 (.mv false (.t 0))), (zs 7 (.app ⟨1, false, 1, (.s (.int .u8 0))⟩ false (.t 5) (.t 6))), (zs 8 (.mv false (.t 1))), (zs 9 (.call (.f (c 0)) [(.t 8)])), (zs 10 (.app ⟨1, false, 1, (.s (.int .u8 0))⟩ false (.t 7) (.t 9))), (zs 4 (.mv true (.t 10)))]) .ret)
def U_hourglassref14_Num (c : Nat → FuncId) := PLift.up (@unfC _ _ (y4ak1.eq_1 c))
def C_hourglassref14_Num (c : Nat → FuncId) : LFn := ⟨11, [.t 4], (.seq (.sq [(zs 4 (.mv true (.c .nilS)))]) (y4ak1 c))⟩
def y4al1 : LCode := (.seq (.sq [(zs 5 (.mv false (.t 0))), (zs 6 (.conv (.int .u64) (.t 5))), (zs 7 (.bin .mul .sc (.c (.int .u64 2)) (.t 6))), (zs 2 (.mv true (.t 7)))]) .ret)
def y4al2 : LCode := (.seq (.sq [(zs 8 (.mv false (.t 0))), (zs 9 (.bin .add .sc (.t 8) (zi 1))), (zs 10 (.un .neg (.t 9))), (zs 11 (.conv (.int .u64) (.t 10))), (zs 12 (.bin .mul .sc (.c (.int .u64 2)) (.t 11))), (zs 13 (.bin .add .sc (.t 12) (.c (.int .u64 1)))), (zs 2 (.mv true (.t 13)))]) .ret)
def y4al3 : LCode := (.seq (.seq (.sq [(zs 3 (.mv false (.t 0))), (zs 4 (.bin .geq .sc (.t 3) (zi 0)))]) (.cond (.t 4) y4al1 .skip)) y4al2)
def U_hourglassref1_Zig := PLift.up (zc (@unfC _ _ (y4al1.eq_1)) (zc (@unfC _ _ (y4al2.eq_1)) (@unfC _ _ (y4al3.eq_1))))
def C_hourglassref1_Zig : LFn := ⟨14, [.t 2], (.seq (.sq [(zs 2 (.mv true (.c (.int .u64 0))))]) y4al3)⟩
def y4am1 (c : Nat → FuncId) : LCode := (.seq (.sq [(zs 12 (.mv true (.t 0))), (zs 13 (.mv false (.t 5))), (zs 14 (.call (.f (c 1)) [(.t 12), (.t 13)])), (zs 4 (.mv true (.t 14)))]) .ret)
def y4am2 (c : Nat → FuncId) : LCode := (.seq (.sq [(zs 8 (.loadA 2 (.t 3))), (zs 9 (.call (.f (c 0)) [(.t 8)])), (zs 7 (.mv false (.t 9))), (zs 10 (.ext (.t 7) 0)), (zs 11 (.ext (.t 7) 1)), (zs 5 (.mv true (.t 10))), (zs 6 (.mv true (.t 11)))]) (y4am1 c))
def U_hourglassref14_Stp (c : Nat → FuncId) := PLift.up (zc (@unfC _ _ (y4am1.eq_1 c)) (@unfC _ _ (y4am2.eq_1 c)))
def C_hourglassref14_Stp (c : Nat → FuncId) : LFn := ⟨15, [.t 4], (.seq (.sq [(zs 3 (.box false false (.t 1))), (zs 4 (.mv true (.c .nilS)))]) (y4am2 c))⟩
def y4an1 : LCode := (.seq (.seq (.sq [(zs 3 (.mv false (.t 0)))]) (.cond (.t 3) (.seq (.sq [(zs 2 (.mv true (.c (.int .u8 1))))]) .ret) .skip)) (.seq (.sq [(zs 2 (.mv true (.c (.int .u8 0))))]) .ret))
def U_hourglassref14_flag := PLift.up (@unfC _ _ (y4an1.eq_1))
def C_hourglassref14_flag : LFn := ⟨4, [.t 2], (.seq (.sq [(zs 2 (.mv true (.c (.int .u8 0))))]) y4an1)⟩
def y4ao1 : LCode := (.seq (.tree (.rd (zs 16 (.mv false (.t 0))) 0 false (.rd (zs 17 (.mv false (.t 5))) 1 false (.rd (zs 18 (.ixa (.sl 18) (.t 16) (.t 17))) 2 false (.rd (zs 19 (.loadA 18 (.t 18))) 3 false (.rd (zs 20 (.mv false (.t 1))) 4 false (.rd (zs 21 (.mv false (.t 5))) 5 false (.rd (zs 22 (.ixa (.sl 18) (.t 20) (.t 21))) 6 false (.rd (zs 23 (.loadA 18 (.t 22))) 7 false (.rd (zs 24 (.bin .neq (.leaf (lk ++ [.str, .bool])) (.t 19) (.t 23))) 8 false .done)))))))))) (.cond (.t 24) (.seq (.sq [(zs 4 (.mv true zF))]) .ret) .skip))
def y4ao2 : LCode := (.seq (.block 1 (.seq (.sq [(zs 15 (.mv false (.t 13))), (zs 5 (.mv true (.t 15)))]) y4ao1)) (.sq [(zs 25 (.bin .add .sc (.t 13) (zi 1))), (zs 13 (.mv false (.t 25)))]))
def y4ao3 : LCode := (.seq (.sq [(zs 14 (.bin .lss .sc (.t 13) (.t 12)))]) (.seq (.cond (.t 14) .skip (.exit 0)) y4ao2))
def y4ao4 : LCode := (.block 0 (.loop (zm false [0, 2, 10, 2, 12]) y4ao3))
def y4ao5 : LCode := (.seq (.seq (.sq [(zs 11 (.mv false (.t 0))), (zs 12 (.len .sl (.t 11))), (zs 13 (.mv false (zi 0)))]) y4ao4) (.seq (.sq [(zs 4 (.mv true zT))]) .ret))
def y4ao6 : LCode := (.seq (.seq (.sq [(zs 6 (.mv false (.t 0))), (zs 7 (.len .sl (.t 6))), (zs 8 (.mv false (.t 1))), (zs 9 (.len .sl (.t 8))), (zs 10 (.bin .neq .sc (.t 7) (.t 9)))]) (.cond (.t 10) (.seq (.sq [(zs 4 (.mv true zF))]) .ret) .skip)) y4ao5)
def U_slices_Equal_Write := PLift.up (zc (zc (@unfC _ _ (y4ao1.eq_1)) (zc (@unfC _ _ (y4ao2.eq_1)) (@unfC _ _ (y4ao3.eq_1)))) (zc (@unfC _ _ (y4ao4.eq_1)) (zc (@unfC _ _ (y4ao5.eq_1)) (@unfC _ _ (y4ao6.eq_1)))))
def C_slices_Equal_Write : LFn := ⟨26, [.t 4], (.seq (.sq [(zs 4 (.mv true zF))]) y4ao6)⟩
def y4as1 : LCode := (.seq (.sq [(zs 3 (.shift 0 (.t 1))), (zs 4 (.load1 false (.t 3))), (zs 5 (.bin .geq .sc (.t 4) (zi 0))), (zs 6 (.mv false (.t 5))), (zt 7 6 (.shift 0 (.t 1))), (zt 8 6 (.load1 false (.t 7))), (zt 9 6 (.bin .leq .sc (.t 8) (zi 36028797018963967))), (zs 10 (.pick (.t 6) (.t 9) zF)), (zs 2 (.mv true (.t 10)))]) .ret)
def U_stamp_Good := PLift.up (@unfC _ _ (y4as1.eq_1))
def C_stamp_Good : LFn := ⟨11, [.t 2], (.seq (.sq [(zs 1 (.box false false (.t 0))), (zs 2 (.mv true zF))]) y4as1)⟩
def y4aw1 (c : Nat → FuncId) : LCode := (.seq (.sq [(zs 5 (.mv true (.t 0))), (zs 6 (.mv false (.t 1))), (zs 7 (.len .str (.t 6))), (zs 8 (.conv (.int .u64) (.t 7))), (zs 9 (.call (.f (c 0)) [(.t 5), (.t 8)])), (zs 10 (.mv false (.t 1))), (zs 11 (.app ⟨1, false, 1, (.s (.int .u8 0))⟩ true (.t 9) (.t 10))), (zs 4 (.mv true (.t 11)))]) .ret)
def U_hourglassref14_Txt (c : Nat → FuncId) := PLift.up (@unfC _ _ (y4aw1.eq_1 c))
def C_hourglassref14_Txt (c : Nat → FuncId) : LFn := ⟨12, [.t 4], (.seq (.sq [(zs 4 (.mv true (.c .nilS)))]) (y4aw1 c))⟩
def y4ax1 (c : Nat → FuncId) : LCode := (.seq (.tree (.rd (zs 4 (.slc (.arr 16 1) (.t 3) none none none)) 0 true (.rd (zs 5 (.mv false (.t 0))) 1 false (.mv (zs 6 (.call (.f (c 0)) [(.t 5), (zi 16)])) [1] (.mv (zs 7 (.cpy ⟨1, false, 1, (.s (.int .u8 0))⟩ true (.t 4) (.t 6))) [0, 1, 2] .done .stop) .stop)))) (.seq (.sq [(zs 8 (.loadA 16 (.t 3))), (zn (.store 16 (.t 2) (.t 8)))]) .ret))
def U_rec_Reader_Key (c : Nat → FuncId) := PLift.up (@unfC _ _ (y4ax1.eq_1 c))
def C_rec_Reader_Key (c : Nat → FuncId) : LFn := ⟨9, [.many 2 16], (.seq (.sq [(zs 2 (.alloc false zk))]) (.seq (.sq [(zs 3 (.alloc false zk))]) (y4ax1 c)))⟩
def y4ay1 (c : Nat → FuncId) : LCode := (.seq (.sq [(zs 13 (.mv false (.t 0))), (zs 14 (.call (.f (c 0)) [(.t 13)]))]) (.seq (.sq [(zs 4 (.mv true (.c (.str []))))]) .ret))
def y4ay2 (c : Nat → FuncId) : LCode := (.seq (.sq [(zs 22 (.mv false (.t 0))), (zs 23 (.mv false (.t 0))), (zs 24 (.nilc (.t 23))), (zs 25 (.shift 0 (.t 24))), (zs 26 (.load1 false (.t 25))), (zs 27 (.mv false (.t 1))), (zs 28 (.slc (.sl 1) (.t 26) (some (.t 27)) none none)), (zs 29 (.nilc (.t 22))), (zs 30 (.shift 0 (.t 29))), (zn (.store 1 (.t 30) (.t 28)))]) (.seq (.sq [(zs 31 (.mv false (.t 5))), (zs 4 (.mv true (.t 31)))]) .ret))
def y4ay3 (c : Nat → FuncId) : LCode := (.seq (.sq [(zs 15 (.mv false (.t 0))), (zs 16 (.nilc (.t 15))), (zs 17 (.shift 0 (.t 16))), (zs 18 (.load1 false (.t 17))), (zs 19 (.mv false (.t 1))), (zs 20 (.slc (.sl 1) (.t 18) none (some (.t 19)) none)), (zs 21 (.conv .ofBytes (.t 20))), (zs 5 (.mv true (.t 21)))]) (y4ay2 c))
def y4ay4 (c : Nat → FuncId) : LCode := (.seq (.seq (.sq [(zs 6 (.mv false (.t 1))), (zs 7 (.mv false (.t 0))), (zs 8 (.nilc (.t 7))), (zs 9 (.shift 0 (.t 8))), (zs 10 (.load1 false (.t 9))), (zs 11 (.len .sl (.t 10))), (zs 12 (.bin .gtr .sc (.t 6) (.t 11)))]) (.cond (.t 12) (y4ay1 c) .skip)) (y4ay3 c))
def U_rec_Reader_Text (c : Nat → FuncId) := PLift.up (zc (zc (@unfC _ _ (y4ay1.eq_1 c)) (@unfC _ _ (y4ay2.eq_1 c))) (zc (@unfC _ _ (y4ay3.eq_1 c)) (@unfC _ _ (y4ay4.eq_1 c))))
def C_rec_Reader_Text (c : Nat → FuncId) : LFn := ⟨32, [.t 4], (.seq (.sq [(zs 4 (.mv true (.c (.str []))))]) (y4ay4 c))⟩
def y4az1 (c : Nat → FuncId) : LCode := (.sq [(zs 38 (.mv false (.t 3))), (zs 39 (.shift 0 (.t 5))), (zs 40 (.loadA 16 (.t 39))), (zn (.upd (.leaf lk) (.t 38) (.t 40) zT))])
def y4az2 (c : Nat → FuncId) : LCode := (.seq (.seq (.sq [(zs 13 (.shift 0 (.t 5))), (zs 14 (.loadA 16 (.t 13))), (zs 15 (.call (.f (c 0)) [(.t 14)])), (zs 16 (.un .not (.t 15))), (zs 17 (.mv false (.t 16))), (zf 18 17 (.mv false (.t 3))), (zf 19 17 (.shift 0 (.t 5))), (zf 20 17 (.loadA 16 (.t 19))), (zf 21 17 (.look (.leaf lk) (.s (.bool false)) false (.t 18) (.t 20))), (zs 22 (.pick (.t 17) zT (.t 21))), (zs 23 (.mv false (.t 22))), (zf 24 23 (.shift 16 (.t 5))), (zf 25 23 (.load1 false (.t 24))), (zf 26 23 (.len .str (.t 25))), (zf 27 23 (.bin .gtr .sc (.t 26) (zi 200))), (zs 28 (.pick (.t 23) zT (.t 27))), (zs 29 (.mv false (.t 28))), (zf 30 29 (.shift 17 (.t 5))), (zf 31 29 (.load1 false (.t 30))), (zf 32 29 (.mv false (.t 31))), (zt 33 32 (.shift 16 (.t 5))), (zt 34 32 (.load1 false (.t 33))), (zt 35 32 (.bin .neq .sc (.t 34) (.c (.str [])))), (zf 36 29 (.pick (.t 32) (.t 35) zF)), (zs 37 (.pick (.t 29) zT (.t 36)))]) (.cond (.t 37) (.seq (.sq [(zs 2 (.mv true zF))]) .ret) .skip)) (y4az1 c))
def y4az3 (c : Nat → FuncId) : LCode := (.seq (.block 1 (.seq (.sq [(zs 11 (.ixa (.sl 18) (.t 7) (.t 9))), (zs 12 (.loadA 18 (.t 11))), (zs 5 (.alloc false (zk ++ [(.s (.str [])), (.s (.bool false))]))), (zn (.store 18 (.t 5) (.t 12)))]) (y4az2 c))) (.sq [(zs 41 (.bin .add .sc (.t 9) (zi 1))), (zs 9 (.mv false (.t 41)))]))
def y4az4 (c : Nat → FuncId) : LCode := (.block 0 (.loop (zm false [3, 1, 3, 3, 32]) (.seq (.sq [(zs 10 (.bin .lss .sc (.t 9) (.t 8)))]) (.seq (.cond (.t 10) .skip (.exit 0)) (y4az3 c)))))
def y4az5 (c : Nat → FuncId) : LCode := (.seq (.seq (.sq [(zs 7 (.mv false (.t 0))), (zs 8 (.len .sl (.t 7))), (zs 9 (.mv false (zi 0)))]) (y4az4 c)) (.seq (.sq [(zs 2 (.mv true zT))]) .ret))
def U_store_Good (c : Nat → FuncId) := PLift.up (zc (zc (@unfC _ _ (y4az1.eq_1 c)) (@unfC _ _ (y4az2.eq_1 c))) (zc (@unfC _ _ (y4az3.eq_1 c)) (zc (@unfC _ _ (y4az4.eq_1 c)) (@unfC _ _ (y4az5.eq_1 c)))))
def C_store_Good (c : Nat → FuncId) : LFn := ⟨42, [.t 2], (.seq (.sq [(zs 2 (.mv true zF))]) (.seq (.sq [(zs 6 (.mkmap none)), (zs 3 (.mv true (.t 6)))]) (y4az5 c)))⟩
def y4ba1 (c : Nat → FuncId) : LCode := (.cond (.t 6) (.seq (.sq [(zs 2 (.mv true (.c (.int .u64 0)))), (zs 3 (.mv true (zi 1)))]) .ret) .skip)
def y4ba2 (c : Nat → FuncId) : LCode := (.seq (.sq [(zs 7 (.shift 0 (.t 1))), (zs 8 (.load1 false (.t 7))), (zs 9 (.conv (.int .u64) (.t 8))), (zs 10 (.bin .shl .sc (.t 9) (.c (.int .u64 8)))), (zs 11 (.shift 1 (.t 1))), (zs 12 (.load1 false (.t 11))), (zs 13 (.conv (.int .u64) (.t 12))), (zs 14 (.bin .or .sc (.t 10) (.t 13))), (zs 2 (.mv true (.t 14))), (zs 3 (.mv true (zi 0)))]) .ret)
def y4ba3 (c : Nat → FuncId) : LCode := (.seq (.seq (.sq [(zs 4 (.loadA 2 (.t 1))), (zs 5 (.call (.f (c 0)) [(.t 4)])), (zs 6 (.un .not (.t 5)))]) (y4ba1 c)) (y4ba2 c))
def U_stamp_Pack (c : Nat → FuncId) := PLift.up (zc (@unfC _ _ (y4ba1.eq_1 c)) (zc (@unfC _ _ (y4ba2.eq_1 c)) (@unfC _ _ (y4ba3.eq_1 c))))
def C_stamp_Pack (c : Nat → FuncId) : LFn := ⟨15, [.t 2, .t 3], (.seq (.sq [(zs 1 (.box false false (.t 0))), (zs 2 (.mv true (.c (.int .u64 0)))), (zs 3 (.mv true (zi 0)))]) (y4ba3 c))⟩
def y4bb1 (c : Nat → FuncId) : LCode := (.seq (.tree (.rd (zs 5 (.slc (.arr 16 1) (.t 3) none none none)) 0 true (.rd (zs 6 (.mv false (.t 0))) 1 false (.mv (zs 7 (.call (.f (c 0)) [(.t 6), (.c (.int .u64 16))])) [1] (.mv (zs 8 (.cpy ⟨1, false, 1, (.s (.int .u8 0))⟩ true (.t 5) (.t 7))) [0, 1, 2] .done .stop) .stop)))) (.seq (.sq [(zs 9 (.loadA 16 (.t 3))), (zn (.store 16 (.t 2) (.t 9)))]) .ret))
def y4bb2 (c : Nat → FuncId) : LCode := (.seq (.sq [(zs 4 (.build zk [])), (zs 3 (.alloc false zk)), (zn (.store 16 (.t 3) (.t 4)))]) (y4bb1 c))
def U_hourglassref14_Key (c : Nat → FuncId) := PLift.up (zc (@unfC _ _ (y4bb1.eq_1 c)) (@unfC _ _ (y4bb2.eq_1 c)))
def C_hourglassref14_Key (c : Nat → FuncId) : LFn := ⟨10, [.many 2 16], (.seq (.sq [(zs 2 (.alloc false zk))]) (y4bb2 c))⟩
def y4bc1 (c : Nat → FuncId) : LCode := (.seq (.sq [(zs 3 (.mv false (.t 0))), (zs 4 (.mv false (.t 0))), (zs 5 (.call (.f (c 0)) [(.t 4)])), (zs 6 (.call (.f (c 1)) [(.t 3), (.t 5)])), (zs 2 (.mv true (.t 6)))]) .ret)
def U_hourglassref14_Text (c : Nat → FuncId) := PLift.up (@unfC _ _ (y4bc1.eq_1 c))
def C_hourglassref14_Text (c : Nat → FuncId) : LFn := ⟨7, [.t 2], (.seq (.sq [(zs 2 (.mv true (.c (.str []))))]) (y4bc1 c))⟩
def y4bd1 : LCode := (.seq (.sq [(zs 19 (.mv false (.t 0))), (zs 20 (.nilc (.t 19))), (zs 21 (.shift 2 (.t 20))), (zn (.store 1 (.t 21) zT))]) (.seq (.sq [(zs 2 (.mv true (.c (.int .u8 0))))]) .ret))
def y4bd2 : LCode := (.seq (.tree (.rd (zs 29 (.mv false (.t 0))) 0 false (.rd (zs 30 (.nilc (.t 29))) 1 false (.rd (zs 31 (.shift 0 (.t 30))) 2 false (.rd (zs 32 (.load1 false (.t 31))) 3 false (.rd (zs 33 (.mv false (.t 0))) 4 false (.rd (zs 34 (.nilc (.t 33))) 5 false (.rd (zs 35 (.shift 1 (.t 34))) 6 false (.rd (zs 36 (.load1 false (.t 35))) 7 false (.rd (zs 37 (.bin .sub .sc (.t 36) (zi 1))) 8 false (.rd (zs 38 (.ixa (.sl 1) (.t 32) (.t 37))) 9 false (.rd (zs 39 (.load1 false (.t 38))) 10 false (.mv (zs 2 (.mv true (.t 39))) [0, 1, 2, 3, 4, 5, 6, 7, 8, 9, 10] .done .stop))))))))))))) .ret)
def y4bd3 : LCode := (.seq (.sq [(zs 22 (.mv false (.t 0))), (zs 23 (.nilc (.t 22))), (zs 24 (.shift 1 (.t 23))), (zs 25 (.load1 false (.t 24))), (zs 26 (.bin .add .sc (.t 25) (zi 1))), (zs 27 (.nilc (.t 22))), (zs 28 (.shift 1 (.t 27))), (zn (.store 1 (.t 28) (.t 26)))]) y4bd2)
def y4bd4 : LCode := (.seq (.seq (.tree (.rd (zs 3 (.mv false (.t 0))) 0 false (.rd (zs 4 (.nilc (.t 3))) 1 false (.rd (zs 5 (.shift 2 (.t 4))) 2 false (.rd (zs 6 (.load1 false (.t 5))) 3 false (.rd (zs 7 (.mv false (.t 6))) 4 false (.rd (zf 8 7 (.mv false (.t 0))) 5 false (.rd (zf 9 7 (.nilc (.t 8))) 6 false (.rd (zf 10 7 (.shift 1 (.t 9))) 7 false (.rd (zf 11 7 (.load1 false (.t 10))) 8 false (.rd (zf 12 7 (.mv false (.t 0))) 9 false (.rd (zf 13 7 (.nilc (.t 12))) 10 false (.rd (zf 14 7 (.shift 0 (.t 13))) 11 false (.rd (zf 15 7 (.load1 false (.t 14))) 12 false (.rd (zf 16 7 (.len .sl (.t 15))) 13 false (.rd (zf 17 7 (.bin .geq .sc (.t 11) (.t 16))) 14 false (.rd (zs 18 (.pick (.t 7) zT (.t 17))) 15 false .done))))))))))))))))) (.cond (.t 18) y4bd1 .skip)) y4bd3)
def U_hourglassref1_Reader_Byte := PLift.up (zc (zc (@unfC _ _ (y4bd1.eq_1)) (@unfC _ _ (y4bd2.eq_1))) (zc (@unfC _ _ (y4bd3.eq_1)) (@unfC _ _ (y4bd4.eq_1))))
def C_hourglassref1_Reader_Byte : LFn := ⟨40, [.t 2], (.seq (.sq [(zs 2 (.mv true (.c (.int .u8 0))))]) y4bd4)⟩
def y4be1 (c : Nat → FuncId) : LCode := (.sq [(zs 56 (.mv false (.t 6))), (zs 57 (.bin .add .sc (.t 56) (zi 1))), (zs 6 (.mv true (.t 57)))])
def y4be2 (c : Nat → FuncId) : LCode := (.seq (.block 3 (.seq (.tree (.rd (zs 58 (.mv false (.t 0))) 0 false (.rd (zs 59 (.mv false (.t 6))) 1 false (.rd (zs 60 (.ixa (.sl 18) (.t 58) (.t 59))) 2 false (.rd (zs 61 (.shift 0 (.t 60))) 3 false (.rd (zs 62 (.loadA 16 (.t 61))) 4 false (.rd (zs 63 (.mv false (.t 0))) 5 false (.rd (zs 64 (.mv false (.t 5))) 6 false (.rd (zs 65 (.ixa (.sl 18) (.t 63) (.t 64))) 7 false (.rd (zs 66 (.shift 0 (.t 65))) 8 false (.rd (zs 67 (.loadA 16 (.t 66))) 9 false (.rd (zs 68 (.bin .eql (.leaf lk) (.t 62) (.t 67))) 10 false .done)))))))))))) (.cond (.t 68) (.seq (.sq [(zs 4 (.mv true zF))]) .ret) .skip))) (y4be1 c))
def y4be3 (c : Nat → FuncId) : LCode := (.seq (.seq (.sq [(zs 53 (.mv false (.t 6))), (zs 54 (.mv false (.t 5))), (zs 55 (.bin .lss .sc (.t 53) (.t 54)))]) (.cond (.t 55) .skip (.exit 2))) (y4be2 c))
def y4be4 (c : Nat → FuncId) : LCode := (.block 2 (.loop (zm false [0, 1, 4, 2, 62]) (y4be3 c)))
def y4be5 (c : Nat → FuncId) : LCode := (.sq [(zs 20 (.mv false (.t 5))), (zs 21 (.bin .add .sc (.t 20) (zi 1))), (zs 5 (.mv true (.t 21)))])
def y4be6 (c : Nat → FuncId) : LCode := (.seq (.block 1 (.seq (.seq (.sq [(zs 22 (.mv false (.t 0))), (zs 23 (.mv false (.t 5))), (zs 24 (.ixa (.sl 18) (.t 22) (.t 23))), (zs 25 (.shift 0 (.t 24))), (zs 26 (.loadA 16 (.t 25))), (zs 27 (.call (.f (c 0)) [(.t 26)])), (zs 28 (.un .not (.t 27))), (zs 29 (.mv false (.t 28))), (zf 30 29 (.mv false (.t 0))), (zf 31 29 (.mv false (.t 5))), (zf 32 29 (.ixa (.sl 18) (.t 30) (.t 31))), (zf 33 29 (.shift 16 (.t 32))), (zf 34 29 (.load1 false (.t 33))), (zf 35 29 (.len .str (.t 34))), (zf 36 29 (.bin .gtr .sc (.t 35) (zi 200))), (zs 37 (.pick (.t 29) zT (.t 36))), (zs 38 (.mv false (.t 37))), (zf 39 38 (.mv false (.t 0))), (zf 40 38 (.mv false (.t 5))), (zf 41 38 (.ixa (.sl 18) (.t 39) (.t 40))), (zf 42 38 (.shift 17 (.t 41))), (zf 43 38 (.load1 false (.t 42))), (zf 44 38 (.mv false (.t 43))), (zt 45 44 (.mv false (.t 0))), (zt 46 44 (.mv false (.t 5))), (zt 47 44 (.ixa (.sl 18) (.t 45) (.t 46))), (zt 48 44 (.shift 16 (.t 47))), (zt 49 44 (.load1 false (.t 48))), (zt 50 44 (.bin .neq .sc (.t 49) (.c (.str [])))), (zf 51 38 (.pick (.t 44) (.t 50) zF)), (zs 52 (.pick (.t 38) zT (.t 51)))]) (.cond (.t 52) (.seq (.sq [(zs 4 (.mv true zF))]) .ret) .skip)) (.seq (.sq [(zs 6 (.mv true (zi 0)))]) (y4be4 c)))) (y4be5 c))
def y4be7 (c : Nat → FuncId) : LCode := (.seq (.seq (.sq [(zs 16 (.mv false (.t 5))), (zs 17 (.mv false (.t 0))), (zs 18 (.len .sl (.t 17))), (zs 19 (.bin .lss .sc (.t 16) (.t 18)))]) (.cond (.t 19) .skip (.exit 0))) (y4be6 c))
def y4be8 (c : Nat → FuncId) : LCode := (.block 0 (.loop (zm false [0, 1, 4, 1, 63]) (y4be7 c)))
def y4be9 (c : Nat → FuncId) : LCode := (.seq (.seq (.sq [(zs 5 (.mv true (zi 0)))]) (y4be8 c)) (.seq (.sq [(zs 4 (.mv true zT))]) .ret))
def y4be10 (c : Nat → FuncId) : LCode := (.seq (.seq (.sq [(zs 7 (.mv false (.t 0))), (zs 8 (.len .sl (.t 7))), (zs 9 (.mv false (.t 1))), (zs 10 (.bin .lss .sc (.t 8) (.t 9))), (zs 11 (.mv false (.t 10))), (zf 12 11 (.mv false (.t 0))), (zf 13 11 (.len .sl (.t 12))), (zf 14 11 (.bin .gtr .sc (.t 13) (zi 16))), (zs 15 (.pick (.t 11) zT (.t 14)))]) (.cond (.t 15) (.seq (.sq [(zs 4 (.mv true zF))]) .ret) .skip)) (y4be9 c))
def U_hourglassref10_MayWrites (c : Nat → FuncId) := PLift.up (zc (zc (zc (@unfC _ _ (y4be1.eq_1 c)) (@unfC _ _ (y4be2.eq_1 c))) (zc (@unfC _ _ (y4be3.eq_1 c)) (zc (@unfC _ _ (y4be4.eq_1 c)) (@unfC _ _ (y4be5.eq_1 c))))) (zc (zc (@unfC _ _ (y4be6.eq_1 c)) (@unfC _ _ (y4be7.eq_1 c))) (zc (@unfC _ _ (y4be8.eq_1 c)) (zc (@unfC _ _ (y4be9.eq_1 c)) (@unfC _ _ (y4be10.eq_1 c))))))
def C_hourglassref10_MayWrites (c : Nat → FuncId) : LFn := ⟨69, [.t 4], (.seq (.sq [(zs 4 (.mv true zF))]) (y4be10 c))⟩
def C_rec_Reader_spoil : LFn := ⟨8, [], (.sq [(zs 2 (.mv false (.t 0))), (zs 3 (.mv false (.t 0))), (zs 4 (.nilc (.t 2))), (zs 5 (.shift 0 (.t 4))), (zn (.store 1 (.t 5) (.c .nilS))), (zs 6 (.nilc (.t 3))), (zs 7 (.shift 1 (.t 6))), (zn (.store 1 (.t 7) zT))])⟩
def y4bf1 : LCode := (.seq (.sq [(zs 2 (.mv true (.c (.int .u64 0)))), (zs 3 (.mv true (zi 0))), (zs 4 (.mv true (zi 3)))]) .ret)
def y4bf2 : LCode := (.seq (.sq [(zs 2 (.mv true (.c (.int .u64 0)))), (zs 3 (.mv true (zi 0))), (zs 4 (.mv true (zi 3)))]) .ret)
def y4bf3 : LCode := (.seq (.sq [(zs 40 (.mv false (.t 2))), (zs 41 (.mv false (.t 5))), (zs 42 (.bin .add .sc (.t 41) (zi 1))), (zs 2 (.mv true (.t 40))), (zs 3 (.mv true (.t 42))), (zs 4 (.mv true (zi 0)))]) .ret)
def y4bf4 : LCode := (.seq (.seq (.sq [(zs 34 (.mv false (.t 6))), (zs 35 (.bin .eql .sc (.t 34) (.c (.int .u8 0)))), (zs 36 (.mv false (.t 35))), (zt 37 36 (.mv false (.t 5))), (zt 38 36 (.bin .gtr .sc (.t 37) (zi 0))), (zs 39 (.pick (.t 36) (.t 38) zF))]) (.cond (.t 39) y4bf2 .skip)) y4bf3)
def y4bf5 : LCode := (.seq (.sq [(zs 32 (.mv false (.t 6))), (zs 33 (.bin .lss .sc (.t 32) (.c (.int .u8 128))))]) (.cond (.t 33) y4bf4 .skip))
def y4bf6 : LCode := (.seq (.sq [(zs 24 (.mv false (.t 2))), (zs 25 (.mv false (.t 6))), (zs 26 (.bin .and .sc (.t 25) (.c (.int .u8 127)))), (zs 27 (.conv (.int .u64) (.t 26))), (zs 28 (.mv false (.t 5))), (zs 29 (.bin .mul .sc (zi 7) (.t 28))), (zs 30 (.bin .shl .sc (.t 27) (.t 29))), (zs 31 (.bin .or .sc (.t 24) (.t 30))), (zs 2 (.mv true (.t 31)))]) y4bf5)
def y4bf7 : LCode := (.seq (.seq (.sq [(zs 14 (.mv false (.t 5))), (zs 15 (.bin .eql .sc (.t 14) (zi 10))), (zs 16 (.mv false (.t 15))), (zf 17 16 (.mv false (.t 5))), (zf 18 16 (.bin .eql .sc (.t 17) (zi 9))), (zf 19 16 (.mv false (.t 18))), (zt 20 19 (.mv false (.t 6))), (zt 21 19 (.bin .gtr .sc (.t 20) (.c (.int .u8 1)))), (zf 22 16 (.pick (.t 19) (.t 21) zF)), (zs 23 (.pick (.t 16) zT (.t 22)))]) (.cond (.t 23) y4bf1 .skip)) y4bf6)
def y4bf8 : LCode := (.seq (.block 1 (.seq (.sq [(zs 11 (.mv false (.t 9))), (zs 12 (.ixa (.sl 1) (.t 7) (.t 9))), (zs 13 (.load1 false (.t 12))), (zs 5 (.mv true (.t 11))), (zs 6 (.mv true (.t 13)))]) y4bf7)) (.sq [(zs 43 (.bin .add .sc (.t 9) (zi 1))), (zs 9 (.mv false (.t 43)))]))
def y4bf9 : LCode := (.block 0 (.loop (zm false [2, 1, 4, 3, 34]) (.seq (.sq [(zs 10 (.bin .lss .sc (.t 9) (.t 8)))]) (.seq (.cond (.t 10) .skip (.exit 0)) y4bf8))))
def y4bf10 : LCode := (.seq (.sq [(zs 2 (.mv true (.c (.int .u64 0)))), (zs 3 (.mv true (zi 0))), (zs 4 (.mv true (zi 3)))]) .ret)
def y4bf11 : LCode := (.seq (.seq (.sq [(zs 7 (.mv false (.t 0))), (zs 8 (.len .sl (.t 7))), (zs 9 (.mv false (zi 0)))]) y4bf9) y4bf10)
def U_bits_Get := PLift.up (zc (zc (zc (@unfC _ _ (y4bf1.eq_1)) (@unfC _ _ (y4bf2.eq_1))) (zc (@unfC _ _ (y4bf3.eq_1)) (zc (@unfC _ _ (y4bf4.eq_1)) (@unfC _ _ (y4bf5.eq_1))))) (zc (zc (@unfC _ _ (y4bf6.eq_1)) (zc (@unfC _ _ (y4bf7.eq_1)) (@unfC _ _ (y4bf8.eq_1)))) (zc (@unfC _ _ (y4bf9.eq_1)) (zc (@unfC _ _ (y4bf10.eq_1)) (@unfC _ _ (y4bf11.eq_1))))))
def C_bits_Get : LFn := ⟨44, [.t 2, .t 3, .t 4], (.seq (.sq [(zs 2 (.mv true (.c (.int .u64 0)))), (zs 3 (.mv true (zi 0))), (zs 4 (.mv true (zi 0)))]) y4bf11)⟩
def y4bg1 : LCode := (.seq (.sq [(zs 7 (.build [(.s (.int .i64 0)), (.s (.int .u8 0))] [])), (zn (.store 2 (.t 2) (.t 7))), (zs 3 (.mv true (zi 1)))]) .ret)
def y4bg2 : LCode := (.seq (.sq [(zs 8 (.mv false (.t 0))), (zs 9 (.bin .shr .sc (.t 8) (.c (.int .u64 8)))), (zs 10 (.conv (.int .i64) (.t 9))), (zs 11 (.mv false (.t 0))), (zs 12 (.conv (.int .u8) (.t 11))), (zs 13 (.build [(.s (.int .i64 0)), (.s (.int .u8 0))] [(0, 1, (.t 10)), (1, 1, (.t 12))])), (zn (.store 2 (.t 2) (.t 13))), (zs 3 (.mv true (zi 0)))]) .ret)
def y4bg3 : LCode := (.seq (.seq (.sq [(zs 4 (.mv false (.t 0))), (zs 5 (.bin .and .sc (.t 4) (.c (.int .u64 9223372036854775808)))), (zs 6 (.bin .neq .sc (.t 5) (.c (.int .u64 0))))]) (.cond (.t 6) y4bg1 .skip)) y4bg2)
def U_stamp_Unpack := PLift.up (zc (@unfC _ _ (y4bg1.eq_1)) (zc (@unfC _ _ (y4bg2.eq_1)) (@unfC _ _ (y4bg3.eq_1))))
def C_stamp_Unpack : LFn := ⟨14, [.many 2 2, .t 3], (.seq (.sq [(zs 2 (.alloc false [(.s (.int .i64 0)), (.s (.int .u8 0))])), (zs 3 (.mv true (zi 0)))]) y4bg3)⟩
def y4bh1 : LCode := (.seq (.sq [(zs 2 (.mv true (.c (.int .u64 0)))), (zs 3 (.mv true (zi 0)))]) .ret)
def y4bh2 : LCode := (.seq (.sq [(zs 2 (.mv true (.c (.int .u64 0)))), (zs 3 (.mv true (zi 0)))]) .ret)
def y4bh3 : LCode := (.seq (.sq [(zs 50 (.mv false (.t 4))), (zs 51 (.mv false (.t 5))), (zs 52 (.bin .add .sc (.t 51) (zi 1))), (zs 2 (.mv true (.t 50))), (zs 3 (.mv true (.t 52)))]) .ret)
def y4bh4 : LCode := (.seq (.seq (.sq [(zs 41 (.mv false (.t 0))), (zs 42 (.mv false (.t 5))), (zs 43 (.ixa (.sl 1) (.t 41) (.t 42))), (zs 44 (.load1 false (.t 43))), (zs 45 (.bin .eql .sc (.t 44) (.c (.int .u8 0)))), (zs 46 (.mv false (.t 45))), (zt 47 46 (.mv false (.t 5))), (zt 48 46 (.bin .gtr .sc (.t 47) (zi 0))), (zs 49 (.pick (.t 46) (.t 48) zF))]) (.cond (.t 49) y4bh2 .skip)) y4bh3)
def y4bh5 : LCode := (.seq (.sq [(zs 36 (.mv false (.t 0))), (zs 37 (.mv false (.t 5))), (zs 38 (.ixa (.sl 1) (.t 36) (.t 37))), (zs 39 (.load1 false (.t 38))), (zs 40 (.bin .lss .sc (.t 39) (.c (.int .u8 128))))]) (.cond (.t 40) y4bh4 .skip))
def y4bh6 : LCode := (.seq (.sq [(zs 29 (.mv false (.t 4))), (zs 30 (.mv false (.t 6))), (zs 31 (.mv false (.t 5))), (zs 32 (.bin .mul .sc (zi 7) (.t 31))), (zs 33 (.conv (.int .u64) (.t 32))), (zs 34 (.bin .shl .sc (.t 30) (.t 33))), (zs 35 (.bin .or .sc (.t 29) (.t 34))), (zs 4 (.mv true (.t 35)))]) y4bh5)
def y4bh7 : LCode := (.seq (.seq (.sq [(zs 23 (.mv false (.t 5))), (zs 24 (.bin .eql .sc (.t 23) (zi 9))), (zs 25 (.mv false (.t 24))), (zt 26 25 (.mv false (.t 6))), (zt 27 25 (.bin .gtr .sc (.t 26) (.c (.int .u64 1)))), (zs 28 (.pick (.t 25) (.t 27) zF))]) (.cond (.t 28) y4bh1 .skip)) y4bh6)
def y4bh8 : LCode := (.sq [(zs 15 (.mv false (.t 5))), (zs 16 (.bin .add .sc (.t 15) (zi 1))), (zs 5 (.mv true (.t 16)))])
def y4bh9 : LCode := (.seq (.block 1 (.seq (.sq [(zs 17 (.mv false (.t 0))), (zs 18 (.mv false (.t 5))), (zs 19 (.ixa (.sl 1) (.t 17) (.t 18))), (zs 20 (.load1 false (.t 19))), (zs 21 (.bin .and .sc (.t 20) (.c (.int .u8 127)))), (zs 22 (.conv (.int .u64) (.t 21))), (zs 6 (.mv true (.t 22)))]) y4bh7)) y4bh8)
def y4bh10 : LCode := (.seq (.seq (.sq [(zs 7 (.mv false (.t 5))), (zs 8 (.mv false (.t 0))), (zs 9 (.len .sl (.t 8))), (zs 10 (.bin .lss .sc (.t 7) (.t 9))), (zs 11 (.mv false (.t 10))), (zt 12 11 (.mv false (.t 5))), (zt 13 11 (.bin .lss .sc (.t 12) (zi 10))), (zs 14 (.pick (.t 11) (.t 13) zF))]) (.cond (.t 14) .skip (.exit 0))) y4bh9)
def y4bh11 : LCode := (.block 0 (.loop (zm false [0, 1, 3, 2, 47]) y4bh10))
def y4bh12 : LCode := (.seq (.seq (.sq [(zs 5 (.mv true (zi 0)))]) y4bh11) (.seq (.sq [(zs 2 (.mv true (.c (.int .u64 0)))), (zs 3 (.mv true (zi 0)))]) .ret))
def U_hourglassref1_Get := PLift.up (zc (zc (zc (@unfC _ _ (y4bh1.eq_1)) (zc (@unfC _ _ (y4bh2.eq_1)) (@unfC _ _ (y4bh3.eq_1)))) (zc (@unfC _ _ (y4bh4.eq_1)) (zc (@unfC _ _ (y4bh5.eq_1)) (@unfC _ _ (y4bh6.eq_1))))) (zc (zc (@unfC _ _ (y4bh7.eq_1)) (zc (@unfC _ _ (y4bh8.eq_1)) (@unfC _ _ (y4bh9.eq_1)))) (zc (@unfC _ _ (y4bh10.eq_1)) (zc (@unfC _ _ (y4bh11.eq_1)) (@unfC _ _ (y4bh12.eq_1))))))
def C_hourglassref1_Get : LFn := ⟨53, [.t 2, .t 3], (.seq (.sq [(zs 2 (.mv true (.c (.int .u64 0)))), (zs 3 (.mv true (zi 0)))]) (.seq (.sq [(zs 4 (.mv true (.c (.int .u64 0))))]) y4bh12))⟩
def y4bi1 : LCode := (.seq (.sq [(zs 6 (.build [(.s (.int .i64 0)), (.s (.int .u8 0))] [])), (zn (.store 2 (.t 2) (.t 6))), (zs 3 (.mv true zF))]) .ret)
def y4bi2 : LCode := (.seq (.sq [(zs 7 (.mv false (.t 0))), (zs 8 (.bin .quo .sc (.t 7) (.c (.int .u64 256)))), (zs 9 (.conv (.int .i64) (.t 8))), (zs 10 (.mv false (.t 0))), (zs 11 (.bin .rem .sc (.t 10) (.c (.int .u64 256)))), (zs 12 (.conv (.int .u8) (.t 11))), (zs 13 (.build [(.s (.int .i64 0)), (.s (.int .u8 0))] [(0, 1, (.t 9)), (1, 1, (.t 12))])), (zn (.store 2 (.t 2) (.t 13))), (zs 3 (.mv true zT))]) .ret)
def y4bi3 : LCode := (.seq (.seq (.sq [(zs 4 (.mv false (.t 0))), (zs 5 (.bin .geq .sc (.t 4) (.c (.int .u64 9223372036854775808))))]) (.cond (.t 5) y4bi1 .skip)) y4bi2)
def U_hourglassref6_Unpack := PLift.up (zc (@unfC _ _ (y4bi1.eq_1)) (zc (@unfC _ _ (y4bi2.eq_1)) (@unfC _ _ (y4bi3.eq_1))))
def C_hourglassref6_Unpack : LFn := ⟨14, [.many 2 2, .t 3], (.seq (.sq [(zs 2 (.alloc false [(.s (.int .i64 0)), (.s (.int .u8 0))])), (zs 3 (.mv true zF))]) y4bi3)⟩
def y4bj1 (c : Nat → FuncId) : LCode := (.seq (.sq [(zs 5 (.mv false (.t 0))), (zs 6 (.conv (.int .u8) (.t 5))), (zs 7 (.bsl ⟨1, false, 1, (.s (.int .u8 0))⟩ 1 [(0, (.t 6))])), (zs 2 (.mv true (.t 7)))]) .ret)
def y4bj2 (c : Nat → FuncId) : LCode := (.seq (.sq [(zs 8 (.mv false (.t 0))), (zs 9 (.bin .rem .sc (.t 8) (.c (.int .u64 128)))), (zs 10 (.conv (.int .u8) (.t 9))), (zs 11 (.bin .add .sc (.t 10) (.c (.int .u8 128)))), (zs 12 (.bsl ⟨1, false, 1, (.s (.int .u8 0))⟩ 1 [(0, (.t 11))])), (zs 13 (.mv false (.t 0))), (zs 14 (.bin .quo .sc (.t 13) (.c (.int .u64 128)))), (zs 15 (.call (.f (c 0)) [(.t 14)])), (zs 16 (.app ⟨1, false, 1, (.s (.int .u8 0))⟩ false (.t 12) (.t 15))), (zs 2 (.mv true (.t 16)))]) .ret)
def y4bj3 (c : Nat → FuncId) : LCode := (.seq (.seq (.sq [(zs 3 (.mv false (.t 0))), (zs 4 (.bin .lss .sc (.t 3) (.c (.int .u64 128))))]) (.cond (.t 4) (y4bj1 c) .skip)) (y4bj2 c))
def U_hourglassref1_Put (c : Nat → FuncId) := PLift.up (zc (@unfC _ _ (y4bj1.eq_1 c)) (zc (@unfC _ _ (y4bj2.eq_1 c)) (@unfC _ _ (y4bj3.eq_1 c))))
def C_hourglassref1_Put (c : Nat → FuncId) : LFn := ⟨17, [.t 2], (.seq (.sq [(zs 2 (.mv true (.c .nilS)))]) (y4bj3 c))⟩
def y4bk1 (c : Nat → FuncId) : LCode := (.cond (.t 6) (.seq (.sq [(zs 2 (.mv true (.c (.int .u64 0)))), (zs 3 (.mv true zF))]) .ret) .skip)
def y4bk2 (c : Nat → FuncId) : LCode := (.seq (.sq [(zs 7 (.shift 0 (.t 1))), (zs 8 (.load1 false (.t 7))), (zs 9 (.conv (.int .u64) (.t 8))), (zs 10 (.bin .mul .sc (.t 9) (.c (.int .u64 256)))), (zs 11 (.shift 1 (.t 1))), (zs 12 (.load1 false (.t 11))), (zs 13 (.conv (.int .u64) (.t 12))), (zs 14 (.bin .add .sc (.t 10) (.t 13))), (zs 2 (.mv true (.t 14))), (zs 3 (.mv true zT))]) .ret)
def y4bk3 (c : Nat → FuncId) : LCode := (.seq (.seq (.sq [(zs 4 (.loadA 2 (.t 1))), (zs 5 (.call (.f (c 0)) [(.t 4)])), (zs 6 (.un .not (.t 5)))]) (y4bk1 c)) (y4bk2 c))
def U_hourglassref6_Pack (c : Nat → FuncId) := PLift.up (zc (@unfC _ _ (y4bk1.eq_1 c)) (zc (@unfC _ _ (y4bk2.eq_1 c)) (@unfC _ _ (y4bk3.eq_1 c))))
def C_hourglassref6_Pack (c : Nat → FuncId) : LFn := ⟨15, [.t 2, .t 3], (.seq (.sq [(zs 1 (.box false false (.t 0))), (zs 2 (.mv true (.c (.int .u64 0)))), (zs 3 (.mv true zF))]) (y4bk3 c))⟩
def y4bm1 : LCode := (.seq (.sq [(zs 25 (.mv false (.t 0))), (zs 26 (.nilc (.t 25))), (zs 27 (.shift 2 (.t 26))), (zn (.store 1 (.t 27) zT))]) (.seq (.sq [(zs 4 (.mv true (.c (.str []))))]) .ret))
def y4bm2 : LCode := (.seq (.sq [(zs 45 (.mv false (.t 0))), (zs 46 (.mv false (.t 0))), (zs 47 (.nilc (.t 46))), (zs 48 (.shift 1 (.t 47))), (zs 49 (.load1 false (.t 48))), (zs 50 (.mv false (.t 1))), (zs 51 (.conv (.int .i64) (.t 50))), (zs 52 (.bin .add .sc (.t 49) (.t 51))), (zs 53 (.nilc (.t 45))), (zs 54 (.shift 1 (.t 53))), (zn (.store 1 (.t 54) (.t 52)))]) (.seq (.sq [(zs 55 (.mv false (.t 5))), (zs 4 (.mv true (.t 55)))]) .ret))
def y4bm3 : LCode := (.seq (.tree (.rd (zs 28 (.mv false (.t 0))) 0 false (.rd (zs 29 (.nilc (.t 28))) 1 false (.rd (zs 30 (.shift 0 (.t 29))) 2 false (.rd (zs 31 (.load1 false (.t 30))) 3 false (.rd (zs 32 (.mv false (.t 0))) 4 false (.rd (zs 33 (.nilc (.t 32))) 5 false (.rd (zs 34 (.shift 1 (.t 33))) 6 false (.rd (zs 35 (.load1 false (.t 34))) 7 false (.rd (zs 36 (.mv false (.t 0))) 8 false (.rd (zs 37 (.nilc (.t 36))) 9 false (.rd (zs 38 (.shift 1 (.t 37))) 10 false (.rd (zs 39 (.load1 false (.t 38))) 11 false (.rd (zs 40 (.mv false (.t 1))) 12 false (.rd (zs 41 (.conv (.int .i64) (.t 40))) 13 false (.rd (zs 42 (.bin .add .sc (.t 39) (.t 41))) 14 false (.rd (zs 43 (.slc (.sl 1) (.t 31) (some (.t 35)) (some (.t 42)) none)) 15 false (.rd (zs 44 (.conv .ofBytes (.t 43))) 16 false (.mv (zs 5 (.mv true (.t 44))) [0, 1, 2, 3, 4, 5, 6, 7, 8, 9, 10, 11, 12, 13, 14, 15, 16] .done .stop))))))))))))))))))) y4bm2)
def y4bm4 : LCode := (.seq (.seq (.tree (.rd (zs 6 (.mv false (.t 0))) 0 false (.rd (zs 7 (.nilc (.t 6))) 1 false (.rd (zs 8 (.shift 2 (.t 7))) 2 false (.rd (zs 9 (.load1 false (.t 8))) 3 false (.rd (zs 10 (.mv false (.t 9))) 4 false (.rd (zf 11 10 (.mv false (.t 0))) 5 false (.rd (zf 12 10 (.nilc (.t 11))) 6 false (.rd (zf 13 10 (.shift 0 (.t 12))) 7 false (.rd (zf 14 10 (.load1 false (.t 13))) 8 false (.rd (zf 15 10 (.len .sl (.t 14))) 9 false (.rd (zf 16 10 (.mv false (.t 0))) 10 false (.rd (zf 17 10 (.nilc (.t 16))) 11 false (.rd (zf 18 10 (.shift 1 (.t 17))) 12 false (.rd (zf 19 10 (.load1 false (.t 18))) 13 false (.rd (zf 20 10 (.bin .sub .sc (.t 15) (.t 19))) 14 false (.rd (zf 21 10 (.conv (.int .u64) (.t 20))) 15 false (.rd (zf 22 10 (.mv false (.t 1))) 16 false (.rd (zf 23 10 (.bin .lss .sc (.t 21) (.t 22))) 17 false (.rd (zs 24 (.pick (.t 10) zT (.t 23))) 18 false .done)))))))))))))))))))) (.cond (.t 24) y4bm1 .skip)) y4bm3)
def U_hourglassref1_Reader_Bytes := PLift.up (zc (zc (@unfC _ _ (y4bm1.eq_1)) (@unfC _ _ (y4bm2.eq_1))) (zc (@unfC _ _ (y4bm3.eq_1)) (@unfC _ _ (y4bm4.eq_1))))
def C_hourglassref1_Reader_Bytes : LFn := ⟨56, [.t 4], (.seq (.sq [(zs 4 (.mv true (.c (.str []))))]) y4bm4)⟩
end Go.AM
namespace Go.AM
open Go
set_option maxRecDepth 20000
def y6a1 (c : Nat → FuncId) : LCode := (.tree (.rd (zs 61 (.shift 0 (.t 7))) 1 true (.rd (zs 62 (.slc (.arr 16 1) (.t 61) none none none)) 2 true (.rd (zs 64 (.shift 16 (.t 7))) 4 true (.rd (zs 65 (.load1 false (.t 64))) 5 true (.mv (zs 60 (.mv true (.t 3))) [] (.mv (zs 63 (.app ⟨1, false, 1, (.s (.int .u8 0))⟩ false (.t 60) (.t 62))) [0, 1, 2] (.mv (zs 66 (.call (.f (c 6)) [(.t 63), (.t 65)])) [0, 1, 2, 3, 4, 5] (.mv (zs 3 (.mv true (.t 66))) [0, 1, 2, 3, 4, 5, 6] .done .stop) .stop) .stop) .stop))))))
def y6a2 (c : Nat → FuncId) : LCode := (.seq (.block 1 (.seq (.sq [(zs 58 (.ixa (.sl 17) (.t 54) (.t 56))), (zs 59 (.loadA 17 (.t 58))), (zs 7 (.alloc true (zk ++ [(.s (.str []))]))), (zn (.store 17 (.t 7) (.t 59)))]) (y6a1 c))) (.sq [(zs 67 (.bin .add .sc (.t 56) (zi 1))), (zs 56 (.mv false (.t 67)))]))
def y6a3 (c : Nat → FuncId) : LCode := (.block 0 (.loop (zm false [1, 1, 1, 1, 50, 3, 29]) (.seq (.sq [(zs 57 (.bin .lss .sc (.t 56) (.t 55)))]) (.seq (.cond (.t 57) .skip (.exit 0)) (y6a2 c)))))
def y6a4 (c : Nat → FuncId) : LCode := (.sq [(zs 70 (.mv false (.t 8))), (zs 71 (.bin .or .sc (.t 70) (.c (.int .u8 1)))), (zs 8 (.mv true (.t 71)))])
def y6a5 (c : Nat → FuncId) : LCode := (.sq [(zs 74 (.mv false (.t 8))), (zs 75 (.bin .or .sc (.t 74) (.c (.int .u8 2)))), (zs 8 (.mv true (.t 75)))])
def y6a6 (c : Nat → FuncId) : LCode := (.seq (.tree (.rd (zs 77 (.shift 41 (.t 1))) 1 true (.rd (zs 78 (.load1 false (.t 77))) 2 true (.rd (zs 80 (.mv false (.t 8))) 4 true (.rd (zs 81 (.bsl ⟨1, false, 1, (.s (.int .u8 0))⟩ 1 [(0, (.t 80))])) 5 true (.rd (zs 83 (.shift 44 (.t 1))) 7 true (.rd (zs 84 (.load1 false (.t 83))) 8 true (.mv (zs 76 (.mv true (.t 3))) [] (.mv (zs 79 (.call (.f (c 6)) [(.t 76), (.t 78)])) [0, 1, 2] (.mv (zs 82 (.app ⟨1, false, 1, (.s (.int .u8 0))⟩ false (.t 79) (.t 81))) [0, 1, 2, 3, 4, 5] (.mv (zs 85 (.call (.f (c 1)) [(.t 82), (.t 84)])) [0, 1, 2, 3, 4, 5, 6, 7, 8] (.mv (zs 2 (.mv true (.t 85))) [0, 1, 2, 3, 4, 5, 6, 7, 8, 9] .done .stop) .stop) .stop) .stop) .stop)))))))) .ret)
def y6a7 (c : Nat → FuncId) : LCode := (.seq (.seq (.sq [(zs 72 (.shift 43 (.t 1))), (zs 73 (.load1 false (.t 72)))]) (.cond (.t 73) (y6a5 c) .skip)) (y6a6 c))
def y6a8 (c : Nat → FuncId) : LCode := (.seq (.seq (.sq [(zs 68 (.shift 42 (.t 1))), (zs 69 (.load1 false (.t 68)))]) (.cond (.t 69) (y6a4 c) .skip)) (y6a7 c))
def y6a9 (c : Nat → FuncId) : LCode := (.seq (.seq (.sq [(zs 53 (.shift 40 (.t 1))), (zs 54 (.load1 false (.t 53))), (zs 55 (.len .sl (.t 54))), (zs 56 (.mv false (zi 0)))]) (y6a3 c)) (.seq (.sq [(zs 8 (.mv true (.c (.int .u8 0))))]) (y6a8 c)))
def y6a10 (c : Nat → FuncId) : LCode := (.seq (.tree (.rd (zs 46 (.shift 39 (.t 1))) 1 true (.rd (zs 47 (.load1 false (.t 46))) 2 true (.rd (zs 49 (.shift 40 (.t 1))) 4 true (.rd (zs 50 (.load1 false (.t 49))) 5 true (.rd (zs 51 (.len .sl (.t 50))) 6 true (.mv (zs 45 (.mv true (.t 3))) [] (.mv (zs 48 (.call (.f (c 5)) [(.t 45), (.t 47)])) [0, 1, 2] (.mv (zs 52 (.call (.f (c 1)) [(.t 48), (.t 51)])) [0, 1, 2, 3, 4, 5, 6] (.mv (zs 3 (.mv true (.t 52))) [0, 1, 2, 3, 4, 5, 6, 7] .done .stop) .stop) .stop) .stop))))))) (y6a9 c))
def y6a11 (c : Nat → FuncId) : LCode := (.seq (.tree (.rd (zs 39 (.shift 7 (.t 1))) 1 true (.rd (zs 40 (.slc (.arr 16 1) (.t 39) none none none)) 2 true (.rd (zs 42 (.shift 23 (.t 1))) 4 true (.rd (zs 43 (.slc (.arr 16 1) (.t 42) none none none)) 5 true (.mv (zs 38 (.mv true (.t 3))) [] (.mv (zs 41 (.app ⟨1, false, 1, (.s (.int .u8 0))⟩ false (.t 38) (.t 40))) [0, 1, 2] (.mv (zs 44 (.app ⟨1, false, 1, (.s (.int .u8 0))⟩ false (.t 41) (.t 43))) [0, 1, 2, 3, 4, 5] (.mv (zs 3 (.mv true (.t 44))) [0, 1, 2, 3, 4, 5, 6] .done .stop) .stop) .stop) .stop)))))) (y6a10 c))
def y6a12 (c : Nat → FuncId) : LCode := (.seq (.tree (.rd (zs 28 (.shift 3 (.t 1))) 1 true (.rd (zs 29 (.load1 false (.t 28))) 2 true (.rd (zs 30 (.conv (.int .u64) (.t 29))) 3 true (.rd (zs 32 (.shift 4 (.t 1))) 5 true (.rd (zs 33 (.load1 false (.t 32))) 6 true (.rd (zs 36 (.mv false (.t 4))) 9 true (.mv (zs 27 (.mv true (.t 3))) [] (.mv (zs 31 (.call (.f (c 3)) [(.t 27), (.t 30)])) [0, 1, 2, 3] (.mv (zs 34 (.call (.f (c 4)) [(.t 33)])) [0, 1, 2, 3, 4, 5, 6] (.mv (zs 35 (.call (.f (c 3)) [(.t 31), (.t 34)])) [0, 1, 2, 3, 4, 5, 6, 7] (.mv (zs 37 (.call (.f (c 3)) [(.t 35), (.t 36)])) [0, 1, 2, 3, 4, 5, 6, 7, 8, 9] (.mv (zs 3 (.mv true (.t 37))) [0, 1, 2, 3, 4, 5, 6, 7, 8, 9, 10] .done .stop) .stop) .stop) .stop) .stop) .stop)))))))) (y6a11 c))
def y6a13 (c : Nat → FuncId) : LCode := (.seq (.sq [(zs 22 (.shift 5 (.t 1))), (zs 23 (.loadA 2 (.t 22))), (zs 24 (.call (.f (c 2)) [(.t 23)])), (zs 21 (.mv false (.t 24))), (zs 25 (.ext (.t 21) 0)), (zs 26 (.ext (.t 21) 1)), (zs 4 (.mv true (.t 25))), (zs 5 (.mv true (.t 26)))]) (y6a12 c))
def y6a14 (c : Nat → FuncId) : LCode := (.seq (.tree (.rd (zs 12 (.shift 0 (.t 1))) 0 false (.rd (zs 13 (.load1 false (.t 12))) 1 false (.rd (zs 15 (.shift 1 (.t 1))) 3 true (.rd (zs 16 (.load1 false (.t 15))) 4 true (.rd (zs 18 (.shift 2 (.t 1))) 6 true (.rd (zs 19 (.load1 false (.t 18))) 7 true (.mv (zs 14 (.call (.f (c 1)) [(.c .nilS), (.t 13)])) [0, 1] (.mv (zs 17 (.call (.f (c 1)) [(.t 14), (.t 16)])) [0, 1, 2, 3, 4] (.mv (zs 20 (.call (.f (c 1)) [(.t 17), (.t 19)])) [0, 1, 2, 3, 4, 5, 6, 7] (.mv (zs 3 (.mv true (.t 20))) [0, 1, 2, 3, 4, 5, 6, 7, 8] .done .stop) .stop) .stop) .stop)))))))) (y6a13 c))
def y6a15 (c : Nat → FuncId) : LCode := (.seq (.seq (.sq [(zs 9 (.loadA 45 (.t 1))), (zs 10 (.call (.f (c 0)) [(.t 9)])), (zs 11 (.un .not (.t 10)))]) (.cond (.t 11) (.seq (.sq [(zs 2 (.mv true (.c .nilS)))]) .ret) .skip)) (y6a14 c))
def U_msg_Put (c : Nat → FuncId) := PLift.up (zc (zc (zc (@unfC _ _ (y6a1.eq_1 c)) (zc (@unfC _ _ (y6a2.eq_1 c)) (@unfC _ _ (y6a3.eq_1 c)))) (zc (zc (@unfC _ _ (y6a4.eq_1 c)) (@unfC _ _ (y6a5.eq_1 c))) (zc (@unfC _ _ (y6a6.eq_1 c)) (@unfC _ _ (y6a7.eq_1 c))))) (zc (zc (zc (@unfC _ _ (y6a8.eq_1 c)) (@unfC _ _ (y6a9.eq_1 c))) (zc (@unfC _ _ (y6a10.eq_1 c)) (@unfC _ _ (y6a11.eq_1 c)))) (zc (zc (@unfC _ _ (y6a12.eq_1 c)) (@unfC _ _ (y6a13.eq_1 c))) (zc (@unfC _ _ (y6a14.eq_1 c)) (@unfC _ _ (y6a15.eq_1 c))))))
def C_msg_Put (c : Nat → FuncId) : LFn := ⟨86, [.t 2], (.seq (.sq [(zs 1 (.box false true (.t 0))), (zs 2 (.mv true (.c .nilS)))]) (y6a15 c))⟩
def y6b1 (c : Nat → FuncId) : LCode := (.seq (.sq [(zs 48 (.shift 39 (.t 1))), (zs 49 (.load1 false (.t 48))), (zs 50 (.len .sl (.t 49))), (zs 51 (.bin .leq .sc (.t 50) (zi 16))), (zs 52 (.mv false (.t 51))), (zt 53 52 (.shift 39 (.t 1))), (zt 54 52 (.load1 false (.t 53))), (zt 55 52 (.call (.f (c 2)) [(.t 54)])), (zs 56 (.pick (.t 52) (.t 55) zF)), (zs 57 (.mv false (.t 56))), (zt 58 57 (.shift 40 (.t 1))), (zt 59 57 (.load1 false (.t 58))), (zt 60 57 (.call (.f (c 3)) [(.t 59)])), (zs 61 (.pick (.t 57) (.t 60) zF)), (zs 2 (.mv true (.t 61)))]) .ret)
def y6b2 (c : Nat → FuncId) : LCode := (.seq (.seq (.sq [(zs 34 (.shift 41 (.t 1))), (zs 35 (.load1 false (.t 34))), (zs 36 (.len .str (.t 35))), (zs 37 (.bin .gtr .sc (.t 36) (zi 200))), (zs 38 (.mv false (.t 37))), (zf 39 38 (.shift 44 (.t 1))), (zf 40 38 (.load1 false (.t 39))), (zf 41 38 (.bin .lss .sc (.t 40) (zi 0))), (zs 42 (.pick (.t 38) zT (.t 41))), (zs 43 (.mv false (.t 42))), (zf 44 43 (.shift 44 (.t 1))), (zf 45 43 (.load1 false (.t 44))), (zf 46 43 (.bin .gtr .sc (.t 45) (zi 12))), (zs 47 (.pick (.t 43) zT (.t 46)))]) (.cond (.t 47) (.seq (.sq [(zs 2 (.mv true zF))]) .ret) .skip)) (y6b1 c))
def y6b3 (c : Nat → FuncId) : LCode := (.seq (.seq (.sq [(zs 3 (.shift 0 (.t 1))), (zs 4 (.load1 false (.t 3))), (zs 5 (.bin .lss .sc (.t 4) (zi 1))), (zs 6 (.mv false (.t 5))), (zf 7 6 (.shift 0 (.t 1))), (zf 8 6 (.load1 false (.t 7))), (zf 9 6 (.bin .gtr .sc (.t 8) (zi 11))), (zs 10 (.pick (.t 6) zT (.t 9))), (zs 11 (.mv false (.t 10))), (zf 12 11 (.shift 1 (.t 1))), (zf 13 11 (.load1 false (.t 12))), (zf 14 11 (.call (.f (c 0)) [(.t 13)])), (zf 15 11 (.un .not (.t 14))), (zs 16 (.pick (.t 11) zT (.t 15))), (zs 17 (.mv false (.t 16))), (zf 18 17 (.shift 2 (.t 1))), (zf 19 17 (.load1 false (.t 18))), (zf 20 17 (.call (.f (c 0)) [(.t 19)])), (zf 21 17 (.un .not (.t 20))), (zs 22 (.pick (.t 17) zT (.t 21))), (zs 23 (.mv false (.t 22))), (zf 24 23 (.shift 3 (.t 1))), (zf 25 23 (.load1 false (.t 24))), (zf 26 23 (.bin .lss .sc (.t 25) (zi 0))), (zs 27 (.pick (.t 23) zT (.t 26))), (zs 28 (.mv false (.t 27))), (zf 29 28 (.shift 5 (.t 1))), (zf 30 28 (.loadA 2 (.t 29))), (zf 31 28 (.call (.f (c 1)) [(.t 30)])), (zf 32 28 (.un .not (.t 31))), (zs 33 (.pick (.t 28) zT (.t 32)))]) (.cond (.t 33) (.seq (.sq [(zs 2 (.mv true zF))]) .ret) .skip)) (y6b2 c))
def U_msg_Good (c : Nat → FuncId) := PLift.up (zc (@unfC _ _ (y6b1.eq_1 c)) (zc (@unfC _ _ (y6b2.eq_1 c)) (@unfC _ _ (y6b3.eq_1 c))))
def C_msg_Good (c : Nat → FuncId) : LFn := ⟨62, [.t 2], (.seq (.sq [(zs 1 (.box false false (.t 0))), (zs 2 (.mv true zF))]) (y6b3 c))⟩
def y6c1 : LCode := (.seq (.sq [(zs 3 (.mv false (.t 0))), (zs 4 (.bin .geq .sc (.t 3) (zi 0))), (zs 5 (.mv false (.t 4))), (zt 6 5 (.mv false (.t 0))), (zt 7 5 (.bin .leq .sc (.t 6) (zi 255))), (zs 8 (.pick (.t 5) (.t 7) zF)), (zs 2 (.mv true (.t 8)))]) .ret)
def U_msg_node := PLift.up (@unfC _ _ (y6c1.eq_1))
def C_msg_node : LFn := ⟨9, [.t 2], (.seq (.sq [(zs 2 (.mv true zF))]) y6c1)⟩
def y6d1 (c : Nat → FuncId) : LCode := (.seq (.tree (.rd (zs 12 (.shift 0 (.t 4))) 0 false (.rd (zs 13 (.loadA 16 (.t 12))) 1 false (.mv (zs 14 (.call (.f (c 0)) [(.t 13)])) [0, 1] (.rd (zs 15 (.un .not (.t 14))) 3 false (.rd (zs 16 (.mv false (.t 15))) 4 false (.rd (zf 17 16 (.shift 16 (.t 4))) 5 false (.rd (zf 18 16 (.load1 false (.t 17))) 6 false (.rd (zf 19 16 (.len .str (.t 18))) 7 false (.rd (zf 20 16 (.bin .gtr .sc (.t 19) (zi 200))) 8 false (.rd (zs 21 (.pick (.t 16) zT (.t 20))) 9 false (.rd (zs 22 (.mv false (.t 21))) 10 false (.rd (zf 23 22 (.mv false (.t 3))) 11 false (.rd (zf 24 22 (.bin .gtr .sc (.t 23) (zi 0))) 12 false (.rd (zf 25 22 (.mv false (.t 24))) 13 false (.rd (zt 26 25 (.mv false (.t 0))) 14 false (.rd (zt 27 25 (.mv false (.t 3))) 15 false (.rd (zt 28 25 (.bin .sub .sc (.t 27) (zi 1))) 16 false (.rd (zt 29 25 (.ixa (.sl 17) (.t 26) (.t 28))) 17 false (.rd (zt 30 25 (.shift 0 (.t 29))) 18 false (.rd (zt 31 25 (.loadA 16 (.t 30))) 19 false (.rd (zt 32 25 (.shift 0 (.t 4))) 20 false (.rd (zt 33 25 (.loadA 16 (.t 32))) 21 false (.mv (zt 34 25 (.call (.f (c 1)) [(.t 31), (.t 33)])) [0, 1, 2, 3, 4, 5, 6, 7, 8, 9, 10, 11, 12, 13, 14, 15, 16, 17, 18, 19, 20, 21] (.rd (zt 35 25 (.bin .geq .sc (.t 34) (zi 0))) 23 false (.rd (zf 36 22 (.pick (.t 25) (.t 35) zF)) 24 false (.rd (zs 37 (.pick (.t 22) zT (.t 36))) 25 false .done))) .stop)))))))))))))))))))) .stop)))) (.cond (.t 37) (.seq (.sq [(zs 2 (.mv true zF))]) .ret) .skip))
def y6d2 (c : Nat → FuncId) : LCode := (.seq (.block 1 (.seq (.sq [(zs 9 (.mv false (.t 7))), (zs 10 (.ixa (.sl 17) (.t 5) (.t 7))), (zs 11 (.loadA 17 (.t 10))), (zs 4 (.alloc false (zk ++ [(.s (.str []))]))), (zs 3 (.mv true (.t 9))), (zn (.store 17 (.t 4) (.t 11)))]) (y6d1 c))) (.sq [(zs 38 (.bin .add .sc (.t 7) (zi 1))), (zs 7 (.mv false (.t 38)))]))
def y6d3 (c : Nat → FuncId) : LCode := (.block 0 (.loop (zm false [0, 1, 4, 3, 34]) (.seq (.sq [(zs 8 (.bin .lss .sc (.t 7) (.t 6)))]) (.seq (.cond (.t 8) .skip (.exit 0)) (y6d2 c)))))
def y6d4 (c : Nat → FuncId) : LCode := (.seq (.sq [(zs 39 (.mv false (.t 0))), (zs 40 (.len .sl (.t 39))), (zs 41 (.bin .leq .sc (.t 40) (zi 200))), (zs 2 (.mv true (.t 41)))]) .ret)
def y6d5 (c : Nat → FuncId) : LCode := (.seq (.seq (.sq [(zs 5 (.mv false (.t 0))), (zs 6 (.len .sl (.t 5))), (zs 7 (.mv false (zi 0)))]) (y6d3 c)) (y6d4 c))
def U_msg_goodItems (c : Nat → FuncId) := PLift.up (zc (zc (@unfC _ _ (y6d1.eq_1 c)) (@unfC _ _ (y6d2.eq_1 c))) (zc (@unfC _ _ (y6d3.eq_1 c)) (zc (@unfC _ _ (y6d4.eq_1 c)) (@unfC _ _ (y6d5.eq_1 c)))))
def C_msg_goodItems (c : Nat → FuncId) : LFn := ⟨42, [.t 2], (.seq (.sq [(zs 2 (.mv true zF))]) (y6d5 c))⟩
def y6e1 (c : Nat → FuncId) : LCode := (.seq (.sq [(zs 5 (.mv true (.t 0))), (zs 6 (.mv false (.t 1))), (zs 7 (.conv (.int .u64) (.t 6))), (zs 8 (.call (.f (c 0)) [(.t 5), (.t 7)])), (zs 4 (.mv true (.t 8)))]) .ret)
def U_msg_num (c : Nat → FuncId) := PLift.up (@unfC _ _ (y6e1.eq_1 c))
def C_msg_num (c : Nat → FuncId) : LFn := ⟨9, [.t 4], (.seq (.sq [(zs 4 (.mv true (.c .nilS)))]) (y6e1 c))⟩
def y6f1 (c : Nat → FuncId) : LCode := (.seq (.sq [(zs 5 (.mv true (.t 0))), (zs 6 (.mv false (.t 1))), (zs 7 (.len .str (.t 6))), (zs 8 (.call (.f (c 0)) [(.t 5), (.t 7)])), (zs 9 (.mv false (.t 1))), (zs 10 (.app ⟨1, false, 1, (.s (.int .u8 0))⟩ true (.t 8) (.t 9))), (zs 4 (.mv true (.t 10)))]) .ret)
def U_msg_text (c : Nat → FuncId) := PLift.up (@unfC _ _ (y6f1.eq_1 c))
def C_msg_text (c : Nat → FuncId) : LFn := ⟨11, [.t 4], (.seq (.sq [(zs 4 (.mv true (.c .nilS)))]) (y6f1 c))⟩
def y6g1 (c : Nat → FuncId) : LCode := (.sq [(zs 52 (.shift 40 (.t 5))), (zs 53 (.load1 true (.t 52))), (zs 54 (.loadA 17 (.t 6))), (zs 55 (.bsl ⟨17, true, 32, (.agg (zk ++ [(.s (.str []))]))⟩ 1 [(0, (.t 54))])), (zs 56 (.app ⟨17, true, 32, (.agg (zk ++ [(.s (.str []))]))⟩ false (.t 53) (.t 55))), (zs 57 (.shift 40 (.t 5))), (zn (.store 1 (.t 57) (.t 56)))])
def y6g2 (c : Nat → FuncId) : LCode := (.seq (.sq [(zs 47 (.mv false (.t 4))), (zs 48 (.mv false (.t 4))), (zs 49 (.call (.f (c 0)) [(.t 48), (zi 200)])), (zs 50 (.call (.f (c 6)) [(.t 47), (.t 49)])), (zs 51 (.shift 16 (.t 6))), (zn (.store 1 (.t 51) (.t 50)))]) (y6g1 c))
def y6g3 (c : Nat → FuncId) : LCode := (.seq (.block 1 (.seq (.sq [(zs 44 (.mv false (.t 4))), (zs 45 (.call (.f (c 4)) [(.t 44)])), (zs 46 (.build (zk ++ [(.s (.str []))]) [(0, 16, (.t 45))])), (zs 6 (.alloc false (zk ++ [(.s (.str []))]))), (zn (.store 17 (.t 6) (.t 46)))]) (y6g2 c))) (.sq [(zs 58 (.bin .add .sc (.t 42) (zi 1))), (zs 42 (.mv false (.t 58)))]))
def y6g4 (c : Nat → FuncId) : LCode := (.block 0 (.loop (zm false [2, 1, 1, 2, 35, 2, 53]) (.seq (.sq [(zs 43 (.bin .lss .sc (.t 42) (.t 41)))]) (.seq (.cond (.t 43) .skip (.exit 0)) (y6g3 c)))))
def y6g5 (c : Nat → FuncId) : LCode := (.seq (.sq [(zs 94 (.build ([(.s (.int .i64 0)), (.s (.int .i64 0)), (.s (.int .i64 0)), (.s (.int .i64 0)), (.s (.int .i64 0)), (.s (.int .i64 0))] ++ zk ++ zk ++ [(.s (.int .u8 0)), (.s .nilS), (.s .nilS), (.s (.str [])), (.s (.bool false)), (.s (.bool false)), (.s (.int .i64 0))]) [])), (zn (.store 45 (.t 2) (.t 94))), (zs 3 (.mv true (zi 3)))]) .ret)
def y6g6 (c : Nat → FuncId) : LCode := (.seq (.sq [(zs 95 (.loadA 45 (.t 5))), (zn (.store 45 (.t 2) (.t 95))), (zs 3 (.mv true (zi 0)))]) .ret)
def y6g7 (c : Nat → FuncId) : LCode := (.seq (.seq (.sq [(zs 77 (.mv false (.t 4))), (zs 78 (.nilc (.t 77))), (zs 79 (.shift 1 (.t 78))), (zs 80 (.load1 false (.t 79))), (zs 81 (.mv false (.t 80))), (zf 82 81 (.mv false (.t 4))), (zf 83 81 (.nilc (.t 82))), (zf 84 81 (.shift 0 (.t 83))), (zf 85 81 (.load1 false (.t 84))), (zf 86 81 (.len .sl (.t 85))), (zf 87 81 (.bin .gtr .sc (.t 86) (zi 0))), (zs 88 (.pick (.t 81) zT (.t 87))), (zs 89 (.mv false (.t 88))), (zf 90 89 (.loadA 45 (.t 5))), (zf 91 89 (.call (.f (c 7)) [(.t 90)])), (zf 92 89 (.un .not (.t 91))), (zs 93 (.pick (.t 89) zT (.t 92)))]) (.cond (.t 93) (y6g5 c) .skip)) (y6g6 c))
def y6g8 (c : Nat → FuncId) : LCode := (.seq (.sq [(zs 74 (.mv false (.t 4))), (zs 75 (.call (.f (c 0)) [(.t 74), (zi 12)])), (zs 76 (.shift 44 (.t 5))), (zn (.store 1 (.t 76) (.t 75)))]) (y6g7 c))
def y6g9 (c : Nat → FuncId) : LCode := (.seq (.sq [(zs 66 (.mv false (.t 7))), (zs 67 (.bin .and .sc (.t 66) (zi 1))), (zs 68 (.bin .neq .sc (.t 67) (zi 0))), (zs 69 (.mv false (.t 7))), (zs 70 (.bin .and .sc (.t 69) (zi 2))), (zs 71 (.bin .neq .sc (.t 70) (zi 0))), (zs 72 (.shift 42 (.t 5))), (zn (.store 1 (.t 72) (.t 68))), (zs 73 (.shift 43 (.t 5))), (zn (.store 1 (.t 73) (.t 71)))]) (y6g8 c))
def y6g10 (c : Nat → FuncId) : LCode := (.seq (.sq [(zs 64 (.mv false (.t 4))), (zs 65 (.call (.f (c 0)) [(.t 64), (zi 3)])), (zs 7 (.mv true (.t 65)))]) (y6g9 c))
def y6g11 (c : Nat → FuncId) : LCode := (.seq (.sq [(zs 59 (.mv false (.t 4))), (zs 60 (.mv false (.t 4))), (zs 61 (.call (.f (c 0)) [(.t 60), (zi 200)])), (zs 62 (.call (.f (c 6)) [(.t 59), (.t 61)])), (zs 63 (.shift 41 (.t 5))), (zn (.store 1 (.t 63) (.t 62)))]) (y6g10 c))
def y6g12 (c : Nat → FuncId) : LCode := (.seq (.seq (.sq [(zs 40 (.mv false (.t 4))), (zs 41 (.call (.f (c 0)) [(.t 40), (zi 200)])), (zs 42 (.mv false (zi 0)))]) (y6g4 c)) (y6g11 c))
def y6g13 (c : Nat → FuncId) : LCode := (.seq (.sq [(zs 37 (.mv false (.t 4))), (zs 38 (.call (.f (c 5)) [(.t 37)])), (zs 39 (.shift 39 (.t 5))), (zn (.store 1 (.t 39) (.t 38)))]) (y6g12 c))
def y6g14 (c : Nat → FuncId) : LCode := (.seq (.sq [(zs 34 (.mv false (.t 4))), (zs 35 (.call (.f (c 4)) [(.t 34)])), (zs 36 (.shift 23 (.t 5))), (zn (.store 16 (.t 36) (.t 35)))]) (y6g13 c))
def y6g15 (c : Nat → FuncId) : LCode := (.seq (.sq [(zs 31 (.mv false (.t 4))), (zs 32 (.call (.f (c 4)) [(.t 31)])), (zs 33 (.shift 7 (.t 5))), (zn (.store 16 (.t 33) (.t 32)))]) (y6g14 c))
def y6g16 (c : Nat → FuncId) : LCode := (.seq (.sq [(zs 28 (.mv false (.t 4))), (zs 29 (.call (.f (c 3)) [(.t 28)])), (zs 30 (.shift 5 (.t 5))), (zn (.store 2 (.t 30) (.t 29)))]) (y6g15 c))
def y6g17 (c : Nat → FuncId) : LCode := (.seq (.sq [(zs 24 (.mv false (.t 4))), (zs 25 (.call (.f (c 1)) [(.t 24)])), (zs 26 (.call (.f (c 2)) [(.t 25)])), (zs 27 (.shift 4 (.t 5))), (zn (.store 1 (.t 27) (.t 26)))]) (y6g16 c))
def y6g18 (c : Nat → FuncId) : LCode := (.seq (.sq [(zs 20 (.mv false (.t 4))), (zs 21 (.call (.f (c 1)) [(.t 20)])), (zs 22 (.conv (.int .i64) (.t 21))), (zs 23 (.shift 3 (.t 5))), (zn (.store 1 (.t 23) (.t 22)))]) (y6g17 c))
def y6g19 (c : Nat → FuncId) : LCode := (.seq (.sq [(zs 17 (.mv false (.t 4))), (zs 18 (.call (.f (c 0)) [(.t 17), (zi 255)])), (zs 19 (.shift 2 (.t 5))), (zn (.store 1 (.t 19) (.t 18)))]) (y6g18 c))
def y6g20 (c : Nat → FuncId) : LCode := (.seq (.sq [(zs 14 (.mv false (.t 4))), (zs 15 (.call (.f (c 0)) [(.t 14), (zi 255)])), (zs 16 (.shift 1 (.t 5))), (zn (.store 1 (.t 16) (.t 15)))]) (y6g19 c))
def y6g21 (c : Nat → FuncId) : LCode := (.seq (.sq [(zs 11 (.mv false (.t 4))), (zs 12 (.call (.f (c 0)) [(.t 11), (zi 11)])), (zs 13 (.shift 0 (.t 5))), (zn (.store 1 (.t 13) (.t 12)))]) (y6g20 c))
def y6g22 (c : Nat → FuncId) : LCode := (.seq (.sq [(zs 5 (.alloc false ([(.s (.int .i64 0)), (.s (.int .i64 0)), (.s (.int .i64 0)), (.s (.int .i64 0)), (.s (.int .i64 0)), (.s (.int .i64 0))] ++ zk ++ zk ++ [(.s (.int .u8 0)), (.s .nilS), (.s .nilS), (.s (.str [])), (.s (.bool false)), (.s (.bool false)), (.s (.int .i64 0))])))]) (y6g21 c))
def y6g23 (c : Nat → FuncId) : LCode := (.seq (.sq [(zs 8 (.mv false (.t 0))), (zs 9 (.build [(.s .nilS), (.s (.bool false))] [(0, 1, (.t 8))])), (zs 10 (.box false false (.t 9))), (zs 4 (.mv true (.t 10)))]) (y6g22 c))
def U_msg_Get (c : Nat → FuncId) := PLift.up (zc (zc (zc (zc (@unfC _ _ (y6g1.eq_1 c)) (@unfC _ _ (y6g2.eq_1 c))) (zc (@unfC _ _ (y6g3.eq_1 c)) (zc (@unfC _ _ (y6g4.eq_1 c)) (@unfC _ _ (y6g5.eq_1 c))))) (zc (zc (@unfC _ _ (y6g6.eq_1 c)) (zc (@unfC _ _ (y6g7.eq_1 c)) (@unfC _ _ (y6g8.eq_1 c)))) (zc (@unfC _ _ (y6g9.eq_1 c)) (zc (@unfC _ _ (y6g10.eq_1 c)) (@unfC _ _ (y6g11.eq_1 c)))))) (zc (zc (zc (@unfC _ _ (y6g12.eq_1 c)) (zc (@unfC _ _ (y6g13.eq_1 c)) (@unfC _ _ (y6g14.eq_1 c)))) (zc (@unfC _ _ (y6g15.eq_1 c)) (zc (@unfC _ _ (y6g16.eq_1 c)) (@unfC _ _ (y6g17.eq_1 c))))) (zc (zc (@unfC _ _ (y6g18.eq_1 c)) (zc (@unfC _ _ (y6g19.eq_1 c)) (@unfC _ _ (y6g20.eq_1 c)))) (zc (@unfC _ _ (y6g21.eq_1 c)) (zc (@unfC _ _ (y6g22.eq_1 c)) (@unfC _ _ (y6g23.eq_1 c)))))))
def C_msg_Get (c : Nat → FuncId) : LFn := ⟨96, [.many 2 45, .t 3], (.seq (.sq [(zs 2 (.alloc false ([(.s (.int .i64 0)), (.s (.int .i64 0)), (.s (.int .i64 0)), (.s (.int .i64 0)), (.s (.int .i64 0)), (.s (.int .i64 0))] ++ zk ++ zk ++ [(.s (.int .u8 0)), (.s .nilS), (.s .nilS), (.s (.str [])), (.s (.bool false)), (.s (.bool false)), (.s (.int .i64 0))]))), (zs 3 (.mv true (zi 0)))]) (y6g23 c))⟩
def y6h1 (c : Nat → FuncId) : LCode := (.seq (.tree (.rd (zs 17 (.mv false (.t 5))) 0 false (.rd (zs 18 (.mv false (.t 17))) 1 false (.rd (zt 19 18 (.mv false (.t 6))) 2 false (.rd (zs 20 (.pick (.t 18) (.t 19) zF)) 3 false (.rd (zs 21 (.mv false (.t 20))) 4 false (.rd (zt 22 21 (.loadA 45 (.t 2))) 5 false (.rd (zt 24 21 (.loadA 45 (.t 3))) 7 true (.mv (zt 23 21 (.call (.f (c 2)) [(.t 22)])) [0, 1, 2, 3, 4, 5] (.mv (zt 25 21 (.call (.f (c 2)) [(.t 24)])) [0, 1, 2, 3, 4, 5, 6, 7] (.rd (zt 26 21 (.bin .eql (.leaf ([.int .i64, .int .i64, .int .i64, .int .i64, .int .i64, .int .i64] ++ lk ++ lk ++ [.int .u8, .str, .bool, .bool, .int .i64])) (.t 23) (.t 25))) 9 false (.rd (zs 27 (.pick (.t 21) (.t 26) zF)) 10 false (.mv (zs 4 (.mv true (.t 27))) [0, 1, 2, 3, 4, 5, 6, 7, 8, 9, 10] .done .stop))) .stop) .stop))))))))) .ret)
def y6h2 (c : Nat → FuncId) : LCode := (.seq (.tree (.rd (zs 7 (.shift 39 (.t 2))) 0 false (.rd (zs 8 (.load1 false (.t 7))) 1 false (.rd (zs 9 (.shift 39 (.t 3))) 2 false (.rd (zs 10 (.load1 false (.t 9))) 3 false (.rd (zs 12 (.shift 40 (.t 2))) 5 true (.rd (zs 13 (.load1 false (.t 12))) 6 true (.rd (zs 14 (.shift 40 (.t 3))) 7 true (.rd (zs 15 (.load1 false (.t 14))) 8 true (.mv (zs 11 (.call (.f (c 0)) [(.t 8), (.t 10)])) [0, 1, 2, 3] (.mv (zs 16 (.call (.f (c 1)) [(.t 13), (.t 15)])) [0, 1, 2, 3, 4, 5, 6, 7, 8] (.mv (zs 5 (.mv true (.t 11))) [0, 1, 2, 3, 4, 5, 6, 7, 8, 9] (.mv (zs 6 (.mv true (.t 16))) [0, 1, 2, 3, 4, 5, 6, 7, 8, 9, 10] .done .stop) .stop) .stop) .stop)))))))))) (y6h1 c))
def U_msg_Same (c : Nat → FuncId) := PLift.up (zc (@unfC _ _ (y6h1.eq_1 c)) (@unfC _ _ (y6h2.eq_1 c)))
def C_msg_Same (c : Nat → FuncId) : LFn := ⟨28, [.t 4], (.seq (.sq [(zs 2 (.box false false (.t 0))), (zs 3 (.box false false (.t 1))), (zs 4 (.mv true zF))]) (y6h2 c))⟩
def y6i1 : LCode := (.seq (.tree (.rd (zs 16 (.mv false (.t 0))) 0 false (.rd (zs 17 (.mv false (.t 5))) 1 false (.rd (zs 18 (.ixa (.sl 17) (.t 16) (.t 17))) 2 false (.rd (zs 19 (.loadA 17 (.t 18))) 3 false (.rd (zs 20 (.mv false (.t 1))) 4 false (.rd (zs 21 (.mv false (.t 5))) 5 false (.rd (zs 22 (.ixa (.sl 17) (.t 20) (.t 21))) 6 false (.rd (zs 23 (.loadA 17 (.t 22))) 7 false (.rd (zs 24 (.bin .neq (.leaf (lk ++ [.str])) (.t 19) (.t 23))) 8 false .done)))))))))) (.cond (.t 24) (.seq (.sq [(zs 4 (.mv true zF))]) .ret) .skip))
def y6i2 : LCode := (.seq (.block 1 (.seq (.sq [(zs 15 (.mv false (.t 13))), (zs 5 (.mv true (.t 15)))]) y6i1)) (.sq [(zs 25 (.bin .add .sc (.t 13) (zi 1))), (zs 13 (.mv false (.t 25)))]))
def y6i3 : LCode := (.seq (.sq [(zs 14 (.bin .lss .sc (.t 13) (.t 12)))]) (.seq (.cond (.t 14) .skip (.exit 0)) y6i2))
def y6i4 : LCode := (.block 0 (.loop (zm false [0, 2, 10, 2, 12]) y6i3))
def y6i5 : LCode := (.seq (.seq (.sq [(zs 11 (.mv false (.t 0))), (zs 12 (.len .sl (.t 11))), (zs 13 (.mv false (zi 0)))]) y6i4) (.seq (.sq [(zs 4 (.mv true zT))]) .ret))
def y6i6 : LCode := (.seq (.seq (.sq [(zs 6 (.mv false (.t 0))), (zs 7 (.len .sl (.t 6))), (zs 8 (.mv false (.t 1))), (zs 9 (.len .sl (.t 8))), (zs 10 (.bin .neq .sc (.t 7) (.t 9)))]) (.cond (.t 10) (.seq (.sq [(zs 4 (.mv true zF))]) .ret) .skip)) y6i5)
def U_slices_Equal_Item := PLift.up (zc (zc (@unfC _ _ (y6i1.eq_1)) (zc (@unfC _ _ (y6i2.eq_1)) (@unfC _ _ (y6i3.eq_1)))) (zc (@unfC _ _ (y6i4.eq_1)) (zc (@unfC _ _ (y6i5.eq_1)) (@unfC _ _ (y6i6.eq_1)))))
def C_slices_Equal_Item : LFn := ⟨26, [.t 4], (.seq (.sq [(zs 4 (.mv true zF))]) y6i6)⟩
def y6j1 : LCode := (.seq (.sq [(zs 3 (.shift 0 (.t 1))), (zs 4 (.load1 false (.t 3))), (zs 5 (.shift 1 (.t 1))), (zs 6 (.load1 false (.t 5))), (zs 7 (.shift 2 (.t 1))), (zs 8 (.load1 false (.t 7))), (zs 9 (.shift 3 (.t 1))), (zs 10 (.load1 false (.t 9))), (zs 11 (.shift 4 (.t 1))), (zs 12 (.load1 false (.t 11))), (zs 13 (.shift 5 (.t 1))), (zs 14 (.loadA 2 (.t 13))), (zs 15 (.shift 7 (.t 1))), (zs 16 (.loadA 16 (.t 15))), (zs 17 (.shift 23 (.t 1))), (zs 18 (.loadA 16 (.t 17))), (zs 19 (.shift 41 (.t 1))), (zs 20 (.load1 false (.t 19))), (zs 21 (.shift 42 (.t 1))), (zs 22 (.load1 false (.t 21))), (zs 23 (.shift 43 (.t 1))), (zs 24 (.load1 false (.t 23))), (zs 25 (.shift 44 (.t 1))), (zs 26 (.load1 false (.t 25))), (zs 27 (.build ([(.s (.int .i64 0)), (.s (.int .i64 0)), (.s (.int .i64 0)), (.s (.int .i64 0)), (.s (.int .i64 0)), (.s (.int .i64 0))] ++ zk ++ zk ++ [(.s (.int .u8 0)), (.s (.str [])), (.s (.bool false)), (.s (.bool false)), (.s (.int .i64 0))]) [(0, 1, (.t 4)), (1, 1, (.t 6)), (2, 1, (.t 8)), (3, 1, (.t 10)), (4, 1, (.t 12)), (5, 2, (.t 14)), (7, 16, (.t 16)), (23, 16, (.t 18)), (39, 1, (.t 20)), (40, 1, (.t 22)), (41, 1, (.t 24)), (42, 1, (.t 26))])), (zn (.store 43 (.t 2) (.t 27)))]) .ret)
def U_msg_plain := PLift.up (@unfC _ _ (y6j1.eq_1))
def C_msg_plain : LFn := ⟨28, [.many 2 43], (.seq (.sq [(zs 1 (.box false false (.t 0))), (zs 2 (.alloc false ([(.s (.int .i64 0)), (.s (.int .i64 0)), (.s (.int .i64 0)), (.s (.int .i64 0)), (.s (.int .i64 0)), (.s (.int .i64 0))] ++ zk ++ zk ++ [(.s (.int .u8 0)), (.s (.str [])), (.s (.bool false)), (.s (.bool false)), (.s (.int .i64 0))])))]) y6j1)⟩
def y6k1 (c : Nat → FuncId) : LCode := (.sq [(zs 59 (.shift 40 (.t 5))), (zs 60 (.load1 true (.t 59))), (zs 61 (.loadA 17 (.t 9))), (zs 62 (.bsl ⟨17, true, 32, (.agg (zk ++ [(.s (.str []))]))⟩ 1 [(0, (.t 61))])), (zs 63 (.app ⟨17, true, 32, (.agg (zk ++ [(.s (.str []))]))⟩ false (.t 60) (.t 62))), (zs 64 (.shift 40 (.t 5))), (zn (.store 1 (.t 64) (.t 63)))])
def y6k2 (c : Nat → FuncId) : LCode := (.seq (.sq [(zs 56 (.mv false (.t 4))), (zs 57 (.call (.f (c 6)) [(.t 56)])), (zs 58 (.shift 16 (.t 9))), (zn (.store 1 (.t 58) (.t 57)))]) (y6k1 c))
def y6k3 (c : Nat → FuncId) : LCode := (.sq [(zs 51 (.mv false (.t 8))), (zs 52 (.bin .add .sc (.t 51) (zi 1))), (zs 8 (.mv true (.t 52)))])
def y6k4 (c : Nat → FuncId) : LCode := (.seq (.block 1 (.seq (.sq [(zs 53 (.mv false (.t 4))), (zs 54 (.call (.f (c 4)) [(.t 53)])), (zs 55 (.build (zk ++ [(.s (.str []))]) [(0, 16, (.t 54))])), (zs 9 (.alloc false (zk ++ [(.s (.str []))]))), (zn (.store 17 (.t 9) (.t 55)))]) (y6k2 c))) (y6k3 c))
def y6k5 (c : Nat → FuncId) : LCode := (.seq (.seq (.sq [(zs 41 (.mv false (.t 8))), (zs 42 (.mv false (.t 7))), (zs 43 (.bin .lss .sc (.t 41) (.t 42))), (zs 44 (.mv false (.t 43))), (zt 45 44 (.mv false (.t 4))), (zt 46 44 (.nilc (.t 45))), (zt 47 44 (.shift 2 (.t 46))), (zt 48 44 (.load1 false (.t 47))), (zt 49 44 (.un .not (.t 48))), (zs 50 (.pick (.t 44) (.t 49) zF))]) (.cond (.t 50) .skip (.exit 0))) (y6k4 c))
def y6k6 (c : Nat → FuncId) : LCode := (.block 0 (.loop (zm false [2, 1, 1, 5, 92]) (y6k5 c)))
def y6k7 (c : Nat → FuncId) : LCode := (.seq (.sq [(zs 92 (.build ([(.s (.int .i64 0)), (.s (.int .i64 0)), (.s (.int .i64 0)), (.s (.int .i64 0)), (.s (.int .i64 0)), (.s (.int .i64 0))] ++ zk ++ zk ++ [(.s (.int .u8 0)), (.s .nilS), (.s .nilS), (.s (.str [])), (.s (.bool false)), (.s (.bool false)), (.s (.int .i64 0))]) [])), (zn (.store 45 (.t 2) (.t 92))), (zs 3 (.mv true zF))]) .ret)
def y6k8 (c : Nat → FuncId) : LCode := (.seq (.sq [(zs 99 (.build ([(.s (.int .i64 0)), (.s (.int .i64 0)), (.s (.int .i64 0)), (.s (.int .i64 0)), (.s (.int .i64 0)), (.s (.int .i64 0))] ++ zk ++ zk ++ [(.s (.int .u8 0)), (.s .nilS), (.s .nilS), (.s (.str [])), (.s (.bool false)), (.s (.bool false)), (.s (.int .i64 0))]) [])), (zn (.store 45 (.t 2) (.t 99))), (zs 3 (.mv true zF))]) .ret)
def y6k9 (c : Nat → FuncId) : LCode := (.seq (.sq [(zs 100 (.loadA 45 (.t 5))), (zn (.store 45 (.t 2) (.t 100))), (zs 3 (.mv true zT))]) .ret)
def y6k10 (c : Nat → FuncId) : LCode := (.seq (.seq (.sq [(zs 96 (.loadA 45 (.t 5))), (zs 97 (.call (.f (c 9)) [(.t 96)])), (zs 98 (.un .not (.t 97)))]) (.cond (.t 98) (y6k8 c) .skip)) (y6k9 c))
def y6k11 (c : Nat → FuncId) : LCode := (.seq (.sq [(zs 93 (.mv false (.t 6))), (zs 94 (.conv (.int .i64) (.t 93))), (zs 95 (.shift 3 (.t 5))), (zn (.store 1 (.t 95) (.t 94)))]) (y6k10 c))
def y6k12 (c : Nat → FuncId) : LCode := (.seq (.seq (.sq [(zs 81 (.mv false (.t 6))), (zs 82 (.bin .geq .sc (.t 81) (.c (.int .u64 9223372036854775808)))), (zs 83 (.mv false (.t 82))), (zf 84 83 (.mv false (.t 10))), (zf 85 83 (.bin .gtr .sc (.t 84) (.c (.int .u8 3)))), (zs 86 (.pick (.t 83) zT (.t 85))), (zs 87 (.mv false (.t 86))), (zf 88 87 (.mv false (.t 4))), (zf 89 87 (.call (.f (c 8)) [(.t 88)])), (zf 90 87 (.un .not (.t 89))), (zs 91 (.pick (.t 87) zT (.t 90)))]) (.cond (.t 91) (y6k7 c) .skip)) (y6k11 c))
def y6k13 (c : Nat → FuncId) : LCode := (.seq (.sq [(zs 78 (.mv false (.t 4))), (zs 79 (.call (.f (c 0)) [(.t 78), (.c (.int .u64 12))])), (zs 80 (.shift 44 (.t 5))), (zn (.store 1 (.t 80) (.t 79)))]) (y6k12 c))
def y6k14 (c : Nat → FuncId) : LCode := (.seq (.sq [(zs 70 (.mv false (.t 10))), (zs 71 (.bin .and .sc (.t 70) (.c (.int .u8 1)))), (zs 72 (.bin .eql .sc (.t 71) (.c (.int .u8 1)))), (zs 73 (.mv false (.t 10))), (zs 74 (.bin .and .sc (.t 73) (.c (.int .u8 2)))), (zs 75 (.bin .eql .sc (.t 74) (.c (.int .u8 2)))), (zs 76 (.shift 42 (.t 5))), (zn (.store 1 (.t 76) (.t 72))), (zs 77 (.shift 43 (.t 5))), (zn (.store 1 (.t 77) (.t 75)))]) (y6k13 c))
def y6k15 (c : Nat → FuncId) : LCode := (.seq (.sq [(zs 68 (.mv false (.t 4))), (zs 69 (.call (.f (c 7)) [(.t 68)])), (zs 10 (.mv true (.t 69)))]) (y6k14 c))
def y6k16 (c : Nat → FuncId) : LCode := (.seq (.sq [(zs 65 (.mv false (.t 4))), (zs 66 (.call (.f (c 6)) [(.t 65)])), (zs 67 (.shift 41 (.t 5))), (zn (.store 1 (.t 67) (.t 66)))]) (y6k15 c))
def y6k17 (c : Nat → FuncId) : LCode := (.seq (.sq [(zs 39 (.mv false (.t 4))), (zs 40 (.call (.f (c 0)) [(.t 39), (.c (.int .u64 200))])), (zs 7 (.mv true (.t 40)))]) (.seq (.seq (.sq [(zs 8 (.mv true (zi 0)))]) (y6k6 c)) (y6k16 c)))
def y6k18 (c : Nat → FuncId) : LCode := (.seq (.sq [(zs 36 (.mv false (.t 4))), (zs 37 (.call (.f (c 5)) [(.t 36)])), (zs 38 (.shift 39 (.t 5))), (zn (.store 1 (.t 38) (.t 37)))]) (y6k17 c))
def y6k19 (c : Nat → FuncId) : LCode := (.seq (.sq [(zs 33 (.mv false (.t 4))), (zs 34 (.call (.f (c 4)) [(.t 33)])), (zs 35 (.shift 23 (.t 5))), (zn (.store 16 (.t 35) (.t 34)))]) (y6k18 c))
def y6k20 (c : Nat → FuncId) : LCode := (.seq (.sq [(zs 30 (.mv false (.t 4))), (zs 31 (.call (.f (c 4)) [(.t 30)])), (zs 32 (.shift 7 (.t 5))), (zn (.store 16 (.t 32) (.t 31)))]) (y6k19 c))
def y6k21 (c : Nat → FuncId) : LCode := (.seq (.sq [(zs 27 (.mv false (.t 4))), (zs 28 (.call (.f (c 3)) [(.t 27)])), (zs 29 (.shift 5 (.t 5))), (zn (.store 2 (.t 29) (.t 28)))]) (y6k20 c))
def y6k22 (c : Nat → FuncId) : LCode := (.seq (.sq [(zs 23 (.mv false (.t 4))), (zs 24 (.call (.f (c 1)) [(.t 23)])), (zs 25 (.call (.f (c 2)) [(.t 24)])), (zs 26 (.shift 4 (.t 5))), (zn (.store 1 (.t 26) (.t 25)))]) (y6k21 c))
def y6k23 (c : Nat → FuncId) : LCode := (.seq (.sq [(zs 21 (.mv false (.t 4))), (zs 22 (.call (.f (c 1)) [(.t 21)])), (zs 6 (.mv true (.t 22)))]) (y6k22 c))
def y6k24 (c : Nat → FuncId) : LCode := (.seq (.sq [(zs 14 (.mv false (.t 4))), (zs 15 (.call (.f (c 0)) [(.t 14), (.c (.int .u64 11))])), (zs 16 (.mv false (.t 4))), (zs 17 (.call (.f (c 0)) [(.t 16), (.c (.int .u64 255))])), (zs 18 (.mv false (.t 4))), (zs 19 (.call (.f (c 0)) [(.t 18), (.c (.int .u64 255))])), (zs 20 (.build ([(.s (.int .i64 0)), (.s (.int .i64 0)), (.s (.int .i64 0)), (.s (.int .i64 0)), (.s (.int .i64 0)), (.s (.int .i64 0))] ++ zk ++ zk ++ [(.s (.int .u8 0)), (.s .nilS), (.s .nilS), (.s (.str [])), (.s (.bool false)), (.s (.bool false)), (.s (.int .i64 0))]) [(0, 1, (.t 15)), (1, 1, (.t 17)), (2, 1, (.t 19))])), (zs 5 (.alloc false ([(.s (.int .i64 0)), (.s (.int .i64 0)), (.s (.int .i64 0)), (.s (.int .i64 0)), (.s (.int .i64 0)), (.s (.int .i64 0))] ++ zk ++ zk ++ [(.s (.int .u8 0)), (.s .nilS), (.s .nilS), (.s (.str [])), (.s (.bool false)), (.s (.bool false)), (.s (.int .i64 0))]))), (zn (.store 45 (.t 5) (.t 20)))]) (y6k23 c))
def y6k25 (c : Nat → FuncId) : LCode := (.seq (.sq [(zs 11 (.mv false (.t 0))), (zs 12 (.build [(.s .nilS), (.s (.int .i64 0)), (.s (.bool false))] [(0, 1, (.t 11))])), (zs 13 (.box false false (.t 12))), (zs 4 (.mv true (.t 13)))]) (y6k24 c))
def U_hourglassref19_Get (c : Nat → FuncId) := PLift.up (zc (zc (zc (zc (@unfC _ _ (y6k1.eq_1 c)) (zc (@unfC _ _ (y6k2.eq_1 c)) (@unfC _ _ (y6k3.eq_1 c)))) (zc (@unfC _ _ (y6k4.eq_1 c)) (zc (@unfC _ _ (y6k5.eq_1 c)) (@unfC _ _ (y6k6.eq_1 c))))) (zc (zc (@unfC _ _ (y6k7.eq_1 c)) (zc (@unfC _ _ (y6k8.eq_1 c)) (@unfC _ _ (y6k9.eq_1 c)))) (zc (@unfC _ _ (y6k10.eq_1 c)) (zc (@unfC _ _ (y6k11.eq_1 c)) (@unfC _ _ (y6k12.eq_1 c)))))) (zc (zc (zc (@unfC _ _ (y6k13.eq_1 c)) (zc (@unfC _ _ (y6k14.eq_1 c)) (@unfC _ _ (y6k15.eq_1 c)))) (zc (@unfC _ _ (y6k16.eq_1 c)) (zc (@unfC _ _ (y6k17.eq_1 c)) (@unfC _ _ (y6k18.eq_1 c))))) (zc (zc (@unfC _ _ (y6k19.eq_1 c)) (zc (@unfC _ _ (y6k20.eq_1 c)) (@unfC _ _ (y6k21.eq_1 c)))) (zc (zc (@unfC _ _ (y6k22.eq_1 c)) (@unfC _ _ (y6k23.eq_1 c))) (zc (@unfC _ _ (y6k24.eq_1 c)) (@unfC _ _ (y6k25.eq_1 c)))))))
def C_hourglassref19_Get (c : Nat → FuncId) : LFn := ⟨101, [.many 2 45, .t 3], (.seq (.sq [(zs 2 (.alloc false ([(.s (.int .i64 0)), (.s (.int .i64 0)), (.s (.int .i64 0)), (.s (.int .i64 0)), (.s (.int .i64 0)), (.s (.int .i64 0))] ++ zk ++ zk ++ [(.s (.int .u8 0)), (.s .nilS), (.s .nilS), (.s (.str [])), (.s (.bool false)), (.s (.bool false)), (.s (.int .i64 0))]))), (zs 3 (.mv true zF))]) (y6k25 c))⟩
def y6l1 (c : Nat → FuncId) : LCode := (.sq [(zs 76 (.mv false (.t 3))), (zs 77 (.bin .add .sc (.t 76) (zi 1))), (zs 3 (.mv true (.t 77)))])
def y6l2 (c : Nat → FuncId) : LCode := (.seq (.block 1 (.seq (.tree (.rd (zs 78 (.shift 40 (.t 1))) 0 false (.rd (zs 79 (.load1 false (.t 78))) 1 false (.rd (zs 80 (.mv false (.t 3))) 2 false (.rd (zs 81 (.ixa (.sl 17) (.t 79) (.t 80))) 3 false (.rd (zs 82 (.shift 0 (.t 81))) 4 false (.rd (zs 83 (.loadA 16 (.t 82))) 5 false (.mv (zs 84 (.call (.f (c 2)) [(.t 83)])) [0, 1, 2, 3, 4, 5] (.rd (zs 85 (.un .not (.t 84))) 7 false (.rd (zs 86 (.mv false (.t 85))) 8 false (.rd (zf 87 86 (.shift 40 (.t 1))) 9 false (.rd (zf 88 86 (.load1 false (.t 87))) 10 false (.rd (zf 89 86 (.mv false (.t 3))) 11 false (.rd (zf 90 86 (.ixa (.sl 17) (.t 88) (.t 89))) 12 false (.rd (zf 91 86 (.shift 16 (.t 90))) 13 false (.rd (zf 92 86 (.load1 false (.t 91))) 14 false (.rd (zf 93 86 (.len .str (.t 92))) 15 false (.rd (zf 94 86 (.bin .gtr .sc (.t 93) (zi 200))) 16 false (.rd (zs 95 (.pick (.t 86) zT (.t 94))) 17 false (.rd (zs 96 (.mv false (.t 95))) 18 false (.rd (zf 97 96 (.mv false (.t 3))) 19 false (.rd (zf 98 96 (.bin .gtr .sc (.t 97) (zi 0))) 20 false (.rd (zf 99 96 (.mv false (.t 98))) 21 false (.rd (zt 100 99 (.shift 40 (.t 1))) 22 false (.rd (zt 101 99 (.load1 false (.t 100))) 23 false (.rd (zt 102 99 (.mv false (.t 3))) 24 false (.rd (zt 103 99 (.ixa (.sl 17) (.t 101) (.t 102))) 25 false (.rd (zt 104 99 (.shift 0 (.t 103))) 26 false (.rd (zt 105 99 (.loadA 16 (.t 104))) 27 false (.rd (zt 106 99 (.shift 40 (.t 1))) 28 false (.rd (zt 107 99 (.load1 false (.t 106))) 29 false (.rd (zt 108 99 (.mv false (.t 3))) 30 false (.rd (zt 109 99 (.bin .sub .sc (.t 108) (zi 1))) 31 false (.rd (zt 110 99 (.ixa (.sl 17) (.t 107) (.t 109))) 32 false (.rd (zt 111 99 (.shift 0 (.t 110))) 33 false (.rd (zt 112 99 (.loadA 16 (.t 111))) 34 false (.mv (zt 113 99 (.call (.f (c 3)) [(.t 105), (.t 112)])) [0, 1, 2, 3, 4, 5, 6, 7, 8, 9, 10, 11, 12, 13, 14, 15, 16, 17, 18, 19, 20, 21, 22, 23, 24, 25, 26, 27, 28, 29, 30, 31, 32, 33, 34] (.rd (zt 114 99 (.bin .leq .sc (.t 113) (zi 0))) 36 false (.rd (zf 115 96 (.pick (.t 99) (.t 114) zF)) 37 false (.rd (zs 116 (.pick (.t 96) zT (.t 115))) 38 false .done))) .stop))))))))))))))))))))))))))))) .stop)))))))) (.cond (.t 116) (.seq (.sq [(zs 2 (.mv true zF))]) .ret) .skip))) (y6l1 c))
def y6l3 (c : Nat → FuncId) : LCode := (.seq (.seq (.sq [(zs 71 (.mv false (.t 3))), (zs 72 (.shift 40 (.t 1))), (zs 73 (.load1 false (.t 72))), (zs 74 (.len .sl (.t 73))), (zs 75 (.bin .lss .sc (.t 71) (.t 74)))]) (.cond (.t 75) .skip (.exit 0))) (y6l2 c))
def y6l4 (c : Nat → FuncId) : LCode := (.block 0 (.loop (zm false [1, 1, 1, 1, 113]) (y6l3 c)))
def y6l5 (c : Nat → FuncId) : LCode := (.seq (.seq (.sq [(zs 3 (.mv true (zi 0)))]) (y6l4 c)) (.seq (.sq [(zs 2 (.mv true zT))]) .ret))
def y6l6 (c : Nat → FuncId) : LCode := (.seq (.seq (.sq [(zs 4 (.shift 0 (.t 1))), (zs 5 (.load1 false (.t 4))), (zs 6 (.bin .lss .sc (.t 5) (zi 1))), (zs 7 (.mv false (.t 6))), (zf 8 7 (.shift 0 (.t 1))), (zf 9 7 (.load1 false (.t 8))), (zf 10 7 (.bin .gtr .sc (.t 9) (zi 11))), (zs 11 (.pick (.t 7) zT (.t 10))), (zs 12 (.mv false (.t 11))), (zf 13 12 (.shift 1 (.t 1))), (zf 14 12 (.load1 false (.t 13))), (zf 15 12 (.bin .lss .sc (.t 14) (zi 0))), (zs 16 (.pick (.t 12) zT (.t 15))), (zs 17 (.mv false (.t 16))), (zf 18 17 (.shift 1 (.t 1))), (zf 19 17 (.load1 false (.t 18))), (zf 20 17 (.bin .gtr .sc (.t 19) (zi 255))), (zs 21 (.pick (.t 17) zT (.t 20))), (zs 22 (.mv false (.t 21))), (zf 23 22 (.shift 2 (.t 1))), (zf 24 22 (.load1 false (.t 23))), (zf 25 22 (.bin .lss .sc (.t 24) (zi 0))), (zs 26 (.pick (.t 22) zT (.t 25))), (zs 27 (.mv false (.t 26))), (zf 28 27 (.shift 2 (.t 1))), (zf 29 27 (.load1 false (.t 28))), (zf 30 27 (.bin .gtr .sc (.t 29) (zi 255))), (zs 31 (.pick (.t 27) zT (.t 30))), (zs 32 (.mv false (.t 31))), (zf 33 32 (.shift 3 (.t 1))), (zf 34 32 (.load1 false (.t 33))), (zf 35 32 (.bin .lss .sc (.t 34) (zi 0))), (zs 36 (.pick (.t 32) zT (.t 35))), (zs 37 (.mv false (.t 36))), (zf 38 37 (.shift 5 (.t 1))), (zf 39 37 (.loadA 2 (.t 38))), (zf 40 37 (.call (.f (c 0)) [(.t 39)])), (zf 41 37 (.un .not (.t 40))), (zs 42 (.pick (.t 37) zT (.t 41))), (zs 43 (.mv false (.t 42))), (zf 44 43 (.shift 39 (.t 1))), (zf 45 43 (.load1 false (.t 44))), (zf 46 43 (.call (.f (c 1)) [(.t 45), (zi 0)])), (zf 47 43 (.un .not (.t 46))), (zs 48 (.pick (.t 43) zT (.t 47))), (zs 49 (.mv false (.t 48))), (zf 50 49 (.shift 40 (.t 1))), (zf 51 49 (.load1 false (.t 50))), (zf 52 49 (.len .sl (.t 51))), (zf 53 49 (.bin .gtr .sc (.t 52) (zi 200))), (zs 54 (.pick (.t 49) zT (.t 53))), (zs 55 (.mv false (.t 54))), (zf 56 55 (.shift 41 (.t 1))), (zf 57 55 (.load1 false (.t 56))), (zf 58 55 (.len .str (.t 57))), (zf 59 55 (.bin .gtr .sc (.t 58) (zi 200))), (zs 60 (.pick (.t 55) zT (.t 59))), (zs 61 (.mv false (.t 60))), (zf 62 61 (.shift 44 (.t 1))), (zf 63 61 (.load1 false (.t 62))), (zf 64 61 (.bin .lss .sc (.t 63) (zi 0))), (zs 65 (.pick (.t 61) zT (.t 64))), (zs 66 (.mv false (.t 65))), (zf 67 66 (.shift 44 (.t 1))), (zf 68 66 (.load1 false (.t 67))), (zf 69 66 (.bin .gtr .sc (.t 68) (zi 12))), (zs 70 (.pick (.t 66) zT (.t 69)))]) (.cond (.t 70) (.seq (.sq [(zs 2 (.mv true zF))]) .ret) .skip)) (y6l5 c))
def U_hourglassref19_Good (c : Nat → FuncId) := PLift.up (zc (zc (@unfC _ _ (y6l1.eq_1 c)) (zc (@unfC _ _ (y6l2.eq_1 c)) (@unfC _ _ (y6l3.eq_1 c)))) (zc (@unfC _ _ (y6l4.eq_1 c)) (zc (@unfC _ _ (y6l5.eq_1 c)) (@unfC _ _ (y6l6.eq_1 c)))))
def C_hourglassref19_Good (c : Nat → FuncId) : LFn := ⟨117, [.t 2], (.seq (.sq [(zs 1 (.box false false (.t 0))), (zs 2 (.mv true zF))]) (y6l6 c))⟩
def y6m1 (c : Nat → FuncId) : LCode := (.sq [(zs 54 (.mv false (.t 4))), (zs 55 (.bin .add .sc (.t 54) (zi 1))), (zs 4 (.mv true (.t 55)))])
def y6m2 (c : Nat → FuncId) : LCode := (.seq (.block 1 (.tree (.rd (zs 57 (.shift 40 (.t 1))) 1 true (.rd (zs 58 (.load1 false (.t 57))) 2 true (.rd (zs 59 (.mv false (.t 4))) 3 true (.rd (zs 60 (.ixa (.sl 17) (.t 58) (.t 59))) 4 true (.rd (zs 61 (.shift 0 (.t 60))) 5 true (.rd (zs 62 (.slc (.arr 16 1) (.t 61) none none none)) 6 true (.rd (zs 64 (.shift 40 (.t 1))) 8 true (.rd (zs 65 (.load1 false (.t 64))) 9 true (.rd (zs 66 (.mv false (.t 4))) 10 true (.rd (zs 67 (.ixa (.sl 17) (.t 65) (.t 66))) 11 true (.rd (zs 68 (.shift 16 (.t 67))) 12 true (.rd (zs 69 (.load1 false (.t 68))) 13 true (.mv (zs 56 (.mv true (.t 3))) [] (.mv (zs 63 (.app ⟨1, false, 1, (.s (.int .u8 0))⟩ false (.t 56) (.t 62))) [0, 1, 2, 3, 4, 5, 6] (.mv (zs 70 (.call (.f (c 5)) [(.t 63), (.t 69)])) [0, 1, 2, 3, 4, 5, 6, 7, 8, 9, 10, 11, 12, 13] (.mv (zs 3 (.mv true (.t 70))) [0, 1, 2, 3, 4, 5, 6, 7, 8, 9, 10, 11, 12, 13, 14] .done .stop) .stop) .stop) .stop))))))))))))))) (y6m1 c))
def y6m3 (c : Nat → FuncId) : LCode := (.seq (.seq (.sq [(zs 49 (.mv false (.t 4))), (zs 50 (.shift 40 (.t 1))), (zs 51 (.load1 false (.t 50))), (zs 52 (.len .sl (.t 51))), (zs 53 (.bin .lss .sc (.t 49) (.t 52)))]) (.cond (.t 53) .skip (.exit 0))) (y6m2 c))
def y6m4 (c : Nat → FuncId) : LCode := (.block 0 (.loop (zm false [1, 1, 1, 2, 84]) (y6m3 c)))
def y6m5 (c : Nat → FuncId) : LCode := (.sq [(zs 79 (.mv false (.t 5))), (zs 80 (.bin .add .sc (.t 79) (.c (.int .u8 2)))), (zs 5 (.mv true (.t 80)))])
def y6m6 (c : Nat → FuncId) : LCode := (.seq (.tree (.rd (zs 82 (.mv false (.t 5))) 1 true (.rd (zs 83 (.bsl ⟨1, false, 1, (.s (.int .u8 0))⟩ 1 [(0, (.t 82))])) 2 true (.rd (zs 85 (.shift 44 (.t 1))) 4 true (.rd (zs 86 (.load1 false (.t 85))) 5 true (.rd (zs 87 (.conv (.int .u64) (.t 86))) 6 true (.mv (zs 81 (.mv true (.t 3))) [] (.mv (zs 84 (.app ⟨1, false, 1, (.s (.int .u8 0))⟩ false (.t 81) (.t 83))) [0, 1, 2] (.mv (zs 88 (.call (.f (c 1)) [(.t 84), (.t 87)])) [0, 1, 2, 3, 4, 5, 6] (.mv (zs 2 (.mv true (.t 88))) [0, 1, 2, 3, 4, 5, 6, 7] .done .stop) .stop) .stop) .stop))))))) .ret)
def y6m7 (c : Nat → FuncId) : LCode := (.seq (.seq (.sq [(zs 77 (.shift 43 (.t 1))), (zs 78 (.load1 false (.t 77)))]) (.cond (.t 78) (y6m5 c) .skip)) (y6m6 c))
def y6m8 (c : Nat → FuncId) : LCode := (.seq (.seq (.sq [(zs 75 (.shift 42 (.t 1))), (zs 76 (.load1 false (.t 75)))]) (.cond (.t 76) (.sq [(zs 5 (.mv true (.c (.int .u8 1))))]) .skip)) (y6m7 c))
def y6m9 (c : Nat → FuncId) : LCode := (.seq (.sq [(zs 71 (.mv true (.t 3))), (zs 72 (.shift 41 (.t 1))), (zs 73 (.load1 false (.t 72))), (zs 74 (.call (.f (c 5)) [(.t 71), (.t 73)])), (zs 3 (.mv true (.t 74)))]) (.seq (.sq [(zs 5 (.mv true (.c (.int .u8 0))))]) (y6m8 c)))
def y6m10 (c : Nat → FuncId) : LCode := (.seq (.tree (.rd (zs 41 (.shift 39 (.t 1))) 1 true (.rd (zs 42 (.load1 false (.t 41))) 2 true (.rd (zs 44 (.shift 40 (.t 1))) 4 true (.rd (zs 45 (.load1 false (.t 44))) 5 true (.rd (zs 46 (.len .sl (.t 45))) 6 true (.rd (zs 47 (.conv (.int .u64) (.t 46))) 7 true (.mv (zs 40 (.mv true (.t 3))) [] (.mv (zs 43 (.call (.f (c 4)) [(.t 40), (.t 42)])) [0, 1, 2] (.mv (zs 48 (.call (.f (c 1)) [(.t 43), (.t 47)])) [0, 1, 2, 3, 4, 5, 6, 7] (.mv (zs 3 (.mv true (.t 48))) [0, 1, 2, 3, 4, 5, 6, 7, 8] .done .stop) .stop) .stop) .stop)))))))) (.seq (.seq (.sq [(zs 4 (.mv true (zi 0)))]) (y6m4 c)) (y6m9 c)))
def y6m11 (c : Nat → FuncId) : LCode := (.seq (.tree (.rd (zs 31 (.shift 5 (.t 1))) 1 true (.rd (zs 32 (.loadA 2 (.t 31))) 2 true (.rd (zs 34 (.shift 7 (.t 1))) 4 true (.rd (zs 35 (.slc (.arr 16 1) (.t 34) none none none)) 5 true (.rd (zs 37 (.shift 23 (.t 1))) 7 true (.rd (zs 38 (.slc (.arr 16 1) (.t 37) none none none)) 8 true (.mv (zs 30 (.mv true (.t 3))) [] (.mv (zs 33 (.call (.f (c 3)) [(.t 30), (.t 32)])) [0, 1, 2] (.mv (zs 36 (.app ⟨1, false, 1, (.s (.int .u8 0))⟩ false (.t 33) (.t 35))) [0, 1, 2, 3, 4, 5] (.mv (zs 39 (.app ⟨1, false, 1, (.s (.int .u8 0))⟩ false (.t 36) (.t 38))) [0, 1, 2, 3, 4, 5, 6, 7, 8] (.mv (zs 3 (.mv true (.t 39))) [0, 1, 2, 3, 4, 5, 6, 7, 8, 9] .done .stop) .stop) .stop) .stop) .stop)))))))) (y6m10 c))
def y6m12 (c : Nat → FuncId) : LCode := (.seq (.tree (.rd (zs 22 (.shift 3 (.t 1))) 1 true (.rd (zs 23 (.load1 false (.t 22))) 2 true (.rd (zs 24 (.conv (.int .u64) (.t 23))) 3 true (.rd (zs 26 (.shift 4 (.t 1))) 5 true (.rd (zs 27 (.load1 false (.t 26))) 6 true (.mv (zs 21 (.mv true (.t 3))) [] (.mv (zs 25 (.call (.f (c 1)) [(.t 21), (.t 24)])) [0, 1, 2, 3] (.mv (zs 28 (.call (.f (c 2)) [(.t 27)])) [0, 1, 2, 3, 4, 5, 6] (.mv (zs 29 (.call (.f (c 1)) [(.t 25), (.t 28)])) [0, 1, 2, 3, 4, 5, 6, 7] (.mv (zs 3 (.mv true (.t 29))) [0, 1, 2, 3, 4, 5, 6, 7, 8] .done .stop) .stop) .stop) .stop) .stop))))))) (y6m11 c))
def y6m13 (c : Nat → FuncId) : LCode := (.seq (.tree (.rd (zs 9 (.shift 0 (.t 1))) 0 false (.rd (zs 10 (.load1 false (.t 9))) 1 false (.rd (zs 11 (.conv (.int .u64) (.t 10))) 2 false (.rd (zs 13 (.shift 1 (.t 1))) 4 true (.rd (zs 14 (.load1 false (.t 13))) 5 true (.rd (zs 15 (.conv (.int .u64) (.t 14))) 6 true (.rd (zs 17 (.shift 2 (.t 1))) 8 true (.rd (zs 18 (.load1 false (.t 17))) 9 true (.rd (zs 19 (.conv (.int .u64) (.t 18))) 10 true (.mv (zs 12 (.call (.f (c 1)) [(.c .nilS), (.t 11)])) [0, 1, 2] (.mv (zs 16 (.call (.f (c 1)) [(.t 12), (.t 15)])) [0, 1, 2, 3, 4, 5, 6] (.mv (zs 20 (.call (.f (c 1)) [(.t 16), (.t 19)])) [0, 1, 2, 3, 4, 5, 6, 7, 8, 9, 10] (.mv (zs 3 (.mv true (.t 20))) [0, 1, 2, 3, 4, 5, 6, 7, 8, 9, 10, 11] .done .stop) .stop) .stop) .stop))))))))))) (y6m12 c))
def y6m14 (c : Nat → FuncId) : LCode := (.seq (.seq (.sq [(zs 6 (.loadA 45 (.t 1))), (zs 7 (.call (.f (c 0)) [(.t 6)])), (zs 8 (.un .not (.t 7)))]) (.cond (.t 8) (.seq (.sq [(zs 2 (.mv true (.c .nilS)))]) .ret) .skip)) (y6m13 c))
def U_hourglassref19_Put (c : Nat → FuncId) := PLift.up (zc (zc (zc (@unfC _ _ (y6m1.eq_1 c)) (zc (@unfC _ _ (y6m2.eq_1 c)) (@unfC _ _ (y6m3.eq_1 c)))) (zc (zc (@unfC _ _ (y6m4.eq_1 c)) (@unfC _ _ (y6m5.eq_1 c))) (zc (@unfC _ _ (y6m6.eq_1 c)) (@unfC _ _ (y6m7.eq_1 c))))) (zc (zc (@unfC _ _ (y6m8.eq_1 c)) (zc (@unfC _ _ (y6m9.eq_1 c)) (@unfC _ _ (y6m10.eq_1 c)))) (zc (zc (@unfC _ _ (y6m11.eq_1 c)) (@unfC _ _ (y6m12.eq_1 c))) (zc (@unfC _ _ (y6m13.eq_1 c)) (@unfC _ _ (y6m14.eq_1 c))))))
def C_hourglassref19_Put (c : Nat → FuncId) : LFn := ⟨89, [.t 2], (.seq (.sq [(zs 1 (.box false true (.t 0))), (zs 2 (.mv true (.c .nilS)))]) (y6m14 c))⟩
def y6n1 (c : Nat → FuncId) : LCode := (.seq (.sq [(zs 5 (.shift 0 (.t 2))), (zs 6 (.load1 false (.t 5))), (zs 7 (.shift 0 (.t 3))), (zs 8 (.load1 false (.t 7))), (zs 9 (.bin .eql .sc (.t 6) (.t 8))), (zs 10 (.mv false (.t 9))), (zt 11 10 (.shift 1 (.t 2))), (zt 12 10 (.load1 false (.t 11))), (zt 13 10 (.shift 1 (.t 3))), (zt 14 10 (.load1 false (.t 13))), (zt 15 10 (.bin .eql .sc (.t 12) (.t 14))), (zs 16 (.pick (.t 10) (.t 15) zF)), (zs 17 (.mv false (.t 16))), (zt 18 17 (.shift 2 (.t 2))), (zt 19 17 (.load1 false (.t 18))), (zt 20 17 (.shift 2 (.t 3))), (zt 21 17 (.load1 false (.t 20))), (zt 22 17 (.bin .eql .sc (.t 19) (.t 21))), (zs 23 (.pick (.t 17) (.t 22) zF)), (zs 24 (.mv false (.t 23))), (zt 25 24 (.shift 3 (.t 2))), (zt 26 24 (.load1 false (.t 25))), (zt 27 24 (.shift 3 (.t 3))), (zt 28 24 (.load1 false (.t 27))), (zt 29 24 (.bin .eql .sc (.t 26) (.t 28))), (zs 30 (.pick (.t 24) (.t 29) zF)), (zs 31 (.mv false (.t 30))), (zt 32 31 (.shift 4 (.t 2))), (zt 33 31 (.load1 false (.t 32))), (zt 34 31 (.shift 4 (.t 3))), (zt 35 31 (.load1 false (.t 34))), (zt 36 31 (.bin .eql .sc (.t 33) (.t 35))), (zs 37 (.pick (.t 31) (.t 36) zF)), (zs 38 (.mv false (.t 37))), (zt 39 38 (.shift 5 (.t 2))), (zt 40 38 (.loadA 2 (.t 39))), (zt 41 38 (.shift 5 (.t 3))), (zt 42 38 (.loadA 2 (.t 41))), (zt 43 38 (.bin .eql (.leaf [.int .i64, .int .u8]) (.t 40) (.t 42))), (zs 44 (.pick (.t 38) (.t 43) zF)), (zs 45 (.mv false (.t 44))), (zt 46 45 (.shift 7 (.t 2))), (zt 47 45 (.loadA 16 (.t 46))), (zt 48 45 (.shift 7 (.t 3))), (zt 49 45 (.loadA 16 (.t 48))), (zt 50 45 (.bin .eql (.leaf lk) (.t 47) (.t 49))), (zs 51 (.pick (.t 45) (.t 50) zF)), (zs 52 (.mv false (.t 51))), (zt 53 52 (.shift 23 (.t 2))), (zt 54 52 (.loadA 16 (.t 53))), (zt 55 52 (.shift 23 (.t 3))), (zt 56 52 (.loadA 16 (.t 55))), (zt 57 52 (.bin .eql (.leaf lk) (.t 54) (.t 56))), (zs 58 (.pick (.t 52) (.t 57) zF)), (zs 59 (.mv false (.t 58))), (zt 60 59 (.shift 39 (.t 2))), (zt 61 59 (.load1 false (.t 60))), (zt 62 59 (.shift 39 (.t 3))), (zt 63 59 (.load1 false (.t 62))), (zt 64 59 (.call (.f (c 0)) [(.t 61), (.t 63)])), (zs 65 (.pick (.t 59) (.t 64) zF)), (zs 66 (.mv false (.t 65))), (zt 67 66 (.shift 40 (.t 2))), (zt 68 66 (.load1 false (.t 67))), (zt 69 66 (.shift 40 (.t 3))), (zt 70 66 (.load1 false (.t 69))), (zt 71 66 (.call (.f (c 1)) [(.t 68), (.t 70)])), (zs 72 (.pick (.t 66) (.t 71) zF)), (zs 73 (.mv false (.t 72))), (zt 74 73 (.shift 41 (.t 2))), (zt 75 73 (.load1 false (.t 74))), (zt 76 73 (.shift 41 (.t 3))), (zt 77 73 (.load1 false (.t 76))), (zt 78 73 (.bin .eql .sc (.t 75) (.t 77))), (zs 79 (.pick (.t 73) (.t 78) zF)), (zs 80 (.mv false (.t 79))), (zt 81 80 (.shift 42 (.t 2))), (zt 82 80 (.load1 false (.t 81))), (zt 83 80 (.shift 42 (.t 3))), (zt 84 80 (.load1 false (.t 83))), (zt 85 80 (.bin .eql .bl (.t 82) (.t 84))), (zs 86 (.pick (.t 80) (.t 85) zF)), (zs 87 (.mv false (.t 86))), (zt 88 87 (.shift 43 (.t 2))), (zt 89 87 (.load1 false (.t 88))), (zt 90 87 (.shift 43 (.t 3))), (zt 91 87 (.load1 false (.t 90))), (zt 92 87 (.bin .eql .bl (.t 89) (.t 91))), (zs 93 (.pick (.t 87) (.t 92) zF)), (zs 94 (.mv false (.t 93))), (zt 95 94 (.shift 44 (.t 2))), (zt 96 94 (.load1 false (.t 95))), (zt 97 94 (.shift 44 (.t 3))), (zt 98 94 (.load1 false (.t 97))), (zt 99 94 (.bin .eql .sc (.t 96) (.t 98))), (zs 100 (.pick (.t 94) (.t 99) zF)), (zs 4 (.mv true (.t 100)))]) .ret)
def U_hourglassref19_Same (c : Nat → FuncId) := PLift.up (@unfC _ _ (y6n1.eq_1 c))
def C_hourglassref19_Same (c : Nat → FuncId) : LFn := ⟨101, [.t 4], (.seq (.sq [(zs 2 (.box false false (.t 0))), (zs 3 (.box false false (.t 1))), (zs 4 (.mv true zF))]) (y6n1 c))⟩
def y6o1 : LCode := (.sq [(zs 15 (.mv false (.t 5))), (zs 16 (.bin .add .sc (.t 15) (zi 1))), (zs 5 (.mv true (.t 16)))])
def y6o2 : LCode := (.seq (.block 1 (.seq (.tree (.rd (zs 17 (.mv false (.t 0))) 0 false (.rd (zs 18 (.mv false (.t 5))) 1 false (.rd (zs 19 (.ixa (.sl 17) (.t 17) (.t 18))) 2 false (.rd (zs 20 (.loadA 17 (.t 19))) 3 false (.rd (zs 21 (.mv false (.t 1))) 4 false (.rd (zs 22 (.mv false (.t 5))) 5 false (.rd (zs 23 (.ixa (.sl 17) (.t 21) (.t 22))) 6 false (.rd (zs 24 (.loadA 17 (.t 23))) 7 false (.rd (zs 25 (.bin .neq (.leaf (lk ++ [.str])) (.t 20) (.t 24))) 8 false .done)))))))))) (.cond (.t 25) (.seq (.sq [(zs 4 (.mv true zF))]) .ret) .skip))) y6o1)
def y6o3 : LCode := (.seq (.seq (.sq [(zs 11 (.mv false (.t 5))), (zs 12 (.mv false (.t 0))), (zs 13 (.len .sl (.t 12))), (zs 14 (.bin .lss .sc (.t 11) (.t 13)))]) (.cond (.t 14) .skip (.exit 0))) y6o2)
def y6o4 : LCode := (.block 0 (.loop (zm false [0, 2, 3, 1, 20]) y6o3))
def y6o5 : LCode := (.seq (.seq (.sq [(zs 5 (.mv true (zi 0)))]) y6o4) (.seq (.sq [(zs 4 (.mv true zT))]) .ret))
def y6o6 : LCode := (.seq (.seq (.sq [(zs 6 (.mv false (.t 0))), (zs 7 (.len .sl (.t 6))), (zs 8 (.mv false (.t 1))), (zs 9 (.len .sl (.t 8))), (zs 10 (.bin .neq .sc (.t 7) (.t 9)))]) (.cond (.t 10) (.seq (.sq [(zs 4 (.mv true zF))]) .ret) .skip)) y6o5)
def U_hourglassref10_Items := PLift.up (zc (zc (@unfC _ _ (y6o1.eq_1)) (zc (@unfC _ _ (y6o2.eq_1)) (@unfC _ _ (y6o3.eq_1)))) (zc (@unfC _ _ (y6o4.eq_1)) (zc (@unfC _ _ (y6o5.eq_1)) (@unfC _ _ (y6o6.eq_1)))))
def C_hourglassref10_Items : LFn := ⟨26, [.t 4], (.seq (.sq [(zs 4 (.mv true zF))]) y6o6)⟩
def y6p1 : LCode := (.seq (.sq [(zs 3 (.shift 0 (.t 1))), (zs 4 (.load1 false (.t 3))), (zs 5 (.shift 1 (.t 1))), (zs 6 (.load1 false (.t 5))), (zs 7 (.shift 2 (.t 1))), (zs 8 (.load1 false (.t 7))), (zs 9 (.shift 3 (.t 1))), (zs 10 (.load1 false (.t 9))), (zs 11 (.shift 4 (.t 1))), (zs 12 (.load1 false (.t 11))), (zs 13 (.shift 5 (.t 1))), (zs 14 (.loadA 2 (.t 13))), (zs 15 (.shift 7 (.t 1))), (zs 16 (.loadA 16 (.t 15))), (zs 17 (.shift 23 (.t 1))), (zs 18 (.loadA 16 (.t 17))), (zs 19 (.shift 39 (.t 1))), (zs 20 (.load1 false (.t 19))), (zs 21 (.shift 40 (.t 1))), (zs 22 (.load1 false (.t 21))), (zs 23 (.shift 41 (.t 1))), (zs 24 (.load1 false (.t 23))), (zs 25 (.shift 42 (.t 1))), (zs 26 (.load1 false (.t 25))), (zs 27 (.shift 43 (.t 1))), (zs 28 (.load1 false (.t 27))), (zs 29 (.shift 44 (.t 1))), (zs 30 (.load1 false (.t 29))), (zs 31 (.build ([(.s (.int .i64 0)), (.s (.int .i64 0)), (.s (.int .i64 0)), (.s (.int .i64 0)), (.s (.int .i64 0)), (.s (.int .i64 0))] ++ zk ++ zk ++ [(.s (.int .u8 0)), (.s .nilS), (.s .nilS), (.s (.str [])), (.s (.bool false)), (.s (.bool false)), (.s (.int .i64 0))]) [(0, 1, (.t 4)), (1, 1, (.t 6)), (2, 1, (.t 8)), (3, 1, (.t 10)), (4, 1, (.t 12)), (5, 2, (.t 14)), (7, 16, (.t 16)), (23, 16, (.t 18)), (39, 1, (.t 20)), (40, 1, (.t 22)), (41, 1, (.t 24)), (42, 1, (.t 26)), (43, 1, (.t 28)), (44, 1, (.t 30))])), (zn (.store 45 (.t 2) (.t 31)))]) .ret)
def U_hourglasslaw19_own := PLift.up (@unfC _ _ (y6p1.eq_1))
def C_hourglasslaw19_own : LFn := ⟨32, [.many 2 45], (.seq (.sq [(zs 1 (.box false false (.t 0))), (zs 2 (.alloc false ([(.s (.int .i64 0)), (.s (.int .i64 0)), (.s (.int .i64 0)), (.s (.int .i64 0)), (.s (.int .i64 0)), (.s (.int .i64 0))] ++ zk ++ zk ++ [(.s (.int .u8 0)), (.s .nilS), (.s .nilS), (.s (.str [])), (.s (.bool false)), (.s (.bool false)), (.s (.int .i64 0))])))]) y6p1)⟩
def y6q1 : LCode := (.sq [(zs 26 (.mv false (.t 3))), (zs 27 (.bin .add .sc (.t 26) (zi 1))), (zs 3 (.mv true (.t 27)))])
def y6q2 : LCode := (.seq (.block 1 (.seq (.sq [(zs 28 (.shift 39 (.t 1))), (zs 29 (.load1 false (.t 28))), (zs 30 (.mv false (.t 3))), (zs 31 (.ixa (.sl 18) (.t 29) (.t 30))), (zs 32 (.shift 16 (.t 31))), (zs 33 (.load1 false (.t 32))), (zs 34 (.len .str (.t 33))), (zs 35 (.bin .gtr .sc (.t 34) (zi 250)))]) (.cond (.t 35) (.seq (.sq [(zs 2 (.mv true zT))]) .ret) .skip))) y6q1)
def y6q3 : LCode := (.seq (.seq (.sq [(zs 21 (.mv false (.t 3))), (zs 22 (.shift 39 (.t 1))), (zs 23 (.load1 false (.t 22))), (zs 24 (.len .sl (.t 23))), (zs 25 (.bin .lss .sc (.t 21) (.t 24)))]) (.cond (.t 25) .skip (.exit 0))) y6q2)
def y6q4 : LCode := (.block 0 (.loop (zm false [1, 1, 1, 1, 47]) y6q3))
def y6q5 : LCode := (.sq [(zs 41 (.mv false (.t 4))), (zs 42 (.bin .add .sc (.t 41) (zi 1))), (zs 4 (.mv true (.t 42)))])
def y6q6 : LCode := (.seq (.block 3 (.seq (.sq [(zs 43 (.shift 40 (.t 1))), (zs 44 (.load1 false (.t 43))), (zs 45 (.mv false (.t 4))), (zs 46 (.ixa (.sl 17) (.t 44) (.t 45))), (zs 47 (.shift 16 (.t 46))), (zs 48 (.load1 false (.t 47))), (zs 49 (.len .str (.t 48))), (zs 50 (.bin .gtr .sc (.t 49) (zi 250)))]) (.cond (.t 50) (.seq (.sq [(zs 2 (.mv true zT))]) .ret) .skip))) y6q5)
def y6q7 : LCode := (.seq (.seq (.sq [(zs 36 (.mv false (.t 4))), (zs 37 (.shift 40 (.t 1))), (zs 38 (.load1 false (.t 37))), (zs 39 (.len .sl (.t 38))), (zs 40 (.bin .lss .sc (.t 36) (.t 39)))]) (.cond (.t 40) .skip (.exit 2))) y6q6)
def y6q8 : LCode := (.block 2 (.loop (zm false [1, 1, 2, 1, 46]) y6q7))
def y6q9 : LCode := (.seq (.seq (.sq [(zs 4 (.mv true (zi 0)))]) y6q8) (.seq (.sq [(zs 2 (.mv true zF))]) .ret))
def y6q10 : LCode := (.seq (.seq (.sq [(zs 5 (.shift 39 (.t 1))), (zs 6 (.load1 false (.t 5))), (zs 7 (.len .sl (.t 6))), (zs 8 (.bin .gtr .sc (.t 7) (zi 20))), (zs 9 (.mv false (.t 8))), (zf 10 9 (.shift 40 (.t 1))), (zf 11 9 (.load1 false (.t 10))), (zf 12 9 (.len .sl (.t 11))), (zf 13 9 (.bin .gtr .sc (.t 12) (zi 20))), (zs 14 (.pick (.t 9) zT (.t 13))), (zs 15 (.mv false (.t 14))), (zf 16 15 (.shift 41 (.t 1))), (zf 17 15 (.load1 false (.t 16))), (zf 18 15 (.len .str (.t 17))), (zf 19 15 (.bin .gtr .sc (.t 18) (zi 250))), (zs 20 (.pick (.t 15) zT (.t 19)))]) (.cond (.t 20) (.seq (.sq [(zs 2 (.mv true zT))]) .ret) .skip)) (.seq (.seq (.sq [(zs 3 (.mv true (zi 0)))]) y6q4) y6q9))
def U_hourglasslaw19_heavy := PLift.up (zc (zc (zc (@unfC _ _ (y6q1.eq_1)) (@unfC _ _ (y6q2.eq_1))) (zc (@unfC _ _ (y6q3.eq_1)) (zc (@unfC _ _ (y6q4.eq_1)) (@unfC _ _ (y6q5.eq_1))))) (zc (zc (@unfC _ _ (y6q6.eq_1)) (@unfC _ _ (y6q7.eq_1))) (zc (@unfC _ _ (y6q8.eq_1)) (zc (@unfC _ _ (y6q9.eq_1)) (@unfC _ _ (y6q10.eq_1))))))
def C_hourglasslaw19_heavy : LFn := ⟨51, [.t 2], (.seq (.sq [(zs 1 (.box false false (.t 0))), (zs 2 (.mv true zF))]) y6q10)⟩
def y6r1 (c : Nat → FuncId) : LCode := (.seq (.sq [(zs 15 (.mv false (.t 3))), (zs 16 (.bin .eql .sc (.t 15) (zi 0))), (zs 17 (.mv false (.t 16))), (zt 18 17 (.loadA 45 (.t 2))), (zt 19 17 (.loadA 45 (.t 1))), (zt 20 17 (.call (.f (c 2)) [(.t 18), (.t 19)])), (zs 21 (.pick (.t 17) (.t 20) zF)), (zs 22 (.mv false (.t 21))), (zt 23 22 (.loadA 45 (.t 1))), (zt 24 22 (.call (.f (c 3)) [(.t 23)])), (zs 25 (.pick (.t 22) (.t 24) zF)), (zs 26 (.mv false (.t 25))), (zt 27 26 (.loadA 45 (.t 1))), (zt 28 26 (.call (.f (c 0)) [(.t 27)])), (zt 29 26 (.len .sl (.t 28))), (zt 30 26 (.bin .gtr .sc (.t 29) (zi 50))), (zs 31 (.pick (.t 26) (.t 30) zF)), (zs 0 (.mv true (.t 31)))]) .ret)
def y6r2 (c : Nat → FuncId) : LCode := (.seq (.sq [(zs 10 (.loadA 45 (.t 1))), (zs 11 (.call (.f (c 0)) [(.t 10)])), (zs 12 (.call (.f (c 1)) [(.t 11)])), (zs 9 (.mv false (.t 12))), (zs 13 (.ext (.t 9) 0)), (zs 14 (.ext (.t 9) 1)), (zs 2 (.alloc false ([(.s (.int .i64 0)), (.s (.int .i64 0)), (.s (.int .i64 0)), (.s (.int .i64 0)), (.s (.int .i64 0)), (.s (.int .i64 0))] ++ zk ++ zk ++ [(.s (.int .u8 0)), (.s .nilS), (.s .nilS), (.s (.str [])), (.s (.bool false)), (.s (.bool false)), (.s (.int .i64 0))]))), (zn (.store 45 (.t 2) (.t 13))), (zs 3 (.mv true (.t 14)))]) (y6r1 c))
def y6r3 (c : Nat → FuncId) : LCode := (.seq (.sq [(zs 4 (.build [(.s (.int .i64 0)), (.s (.int .u8 0))] [(0, 1, (zi 3))])), (zs 5 (.build zk [(0, 1, (.c (.int .u8 97)))])), (zs 6 (.build (zk ++ [(.s (.str [])), (.s (.bool false))]) [(0, 16, (.t 5)), (16, 1, (.c (.str [120])))])), (zs 7 (.bsl ⟨18, true, 40, (.agg (zk ++ [(.s (.str [])), (.s (.bool false))]))⟩ 1 [(0, (.t 6))])), (zs 8 (.build ([(.s (.int .i64 0)), (.s (.int .i64 0)), (.s (.int .i64 0)), (.s (.int .i64 0)), (.s (.int .i64 0)), (.s (.int .i64 0))] ++ zk ++ zk ++ [(.s (.int .u8 0)), (.s .nilS), (.s .nilS), (.s (.str [])), (.s (.bool false)), (.s (.bool false)), (.s (.int .i64 0))]) [(0, 1, (zi 5)), (1, 1, (zi 255)), (2, 1, (zi 1)), (3, 1, (zi 7)), (5, 2, (.t 4)), (39, 1, (.t 7)), (43, 1, zT)])), (zs 1 (.alloc false ([(.s (.int .i64 0)), (.s (.int .i64 0)), (.s (.int .i64 0)), (.s (.int .i64 0)), (.s (.int .i64 0)), (.s (.int .i64 0))] ++ zk ++ zk ++ [(.s (.int .u8 0)), (.s .nilS), (.s .nilS), (.s (.str [])), (.s (.bool false)), (.s (.bool false)), (.s (.int .i64 0))]))), (zn (.store 45 (.t 1) (.t 8)))]) (y6r2 c))
def U_hourglasslaw19_awake (c : Nat → FuncId) := PLift.up (zc (@unfC _ _ (y6r1.eq_1 c)) (zc (@unfC _ _ (y6r2.eq_1 c)) (@unfC _ _ (y6r3.eq_1 c))))
def C_hourglasslaw19_awake (c : Nat → FuncId) : LFn := ⟨32, [.t 0], (.seq (.sq [(zs 0 (.mv true zF))]) (y6r3 c))⟩
def y6s1 (c : Nat → FuncId) : LCode := (.seq (.tree (.rd (zs 34 (.loadA 45 (.t 3))) 0 false (.rd (zs 37 (.loadA 45 (.t 3))) 3 true (.mv (zs 35 (.call (.f (c 4)) [(.t 34)])) [0] (.rd (zs 36 (.conv .ofBytes (.t 35))) 2 true (.mv (zs 38 (.call (.f (c 5)) [(.t 37)])) [0, 1, 3] (.mv (zs 39 (.call (.f (c 6)) [(.t 38)])) [0, 1, 3, 4] (.rd (zs 40 (.conv .ofBytes (.t 39))) 6 false (.rd (zs 41 (.bin .eql .sc (.t 36) (.t 40))) 7 false (.rd (zs 42 (.mv false (.t 41))) 8 false (.rd (zt 43 42 (.mv false (.t 8))) 9 false (.rd (zt 44 42 (.bin .eql .sc (.t 43) (zi 0))) 10 false (.rd (zt 45 42 (.mv false (.t 10))) 11 false (.rd (zt 46 42 (.bin .eql .bl (.t 44) (.t 45))) 12 false (.rd (zs 47 (.pick (.t 42) (.t 46) zF)) 13 false (.rd (zs 48 (.mv false (.t 47))) 14 false (.rd (zt 49 48 (.mv false (.t 10))) 15 false (.rd (zt 50 48 (.mv false (.t 49))) 16 false (.rd (zf 51 50 (.mv false (.t 8))) 17 false (.rd (zf 52 50 (.bin .eql .sc (.t 51) (zi 3))) 18 false (.rd (zt 53 48 (.pick (.t 50) zT (.t 52))) 19 false (.rd (zs 54 (.pick (.t 48) (.t 53) zF)) 20 false (.rd (zs 55 (.mv false (.t 54))) 21 false (.rd (zt 56 55 (.loadA 45 (.t 7))) 22 false (.rd (zt 58 55 (.loadA 45 (.t 9))) 24 true (.mv (zt 57 55 (.call (.f (c 5)) [(.t 56)])) [0, 1, 2, 3, 4, 5, 6, 7, 8, 9, 10, 11, 12, 13, 14, 15, 16, 17, 18, 19, 20, 21, 22] (.mv (zt 59 55 (.call (.f (c 7)) [(.t 57), (.t 58)])) [0, 1, 2, 3, 4, 5, 6, 7, 8, 9, 10, 11, 12, 13, 14, 15, 16, 17, 18, 19, 20, 21, 22, 23, 24] (.rd (zs 60 (.pick (.t 55) (.t 59) zF)) 26 false (.rd (zs 61 (.mv false (.t 60))) 27 false (.rd (zt 62 61 (.loadA 45 (.t 3))) 28 false (.rd (zt 63 61 (.loadA 45 (.t 4))) 29 false (.rd (zt 65 61 (.loadA 45 (.t 3))) 31 true (.rd (zt 67 61 (.loadA 45 (.t 4))) 33 true (.mv (zt 64 61 (.call (.f (c 8)) [(.t 62), (.t 63)])) [0, 1, 2, 3, 4, 5, 6, 7, 8, 9, 10, 11, 12, 13, 14, 15, 16, 17, 18, 19, 20, 21, 22, 23, 24, 25, 26, 27, 28, 29] (.mv (zt 66 61 (.call (.f (c 5)) [(.t 65)])) [0, 1, 2, 3, 4, 5, 6, 7, 8, 9, 10, 11, 12, 13, 14, 15, 16, 17, 18, 19, 20, 21, 22, 23, 24, 25, 26, 27, 28, 29, 30, 31] (.mv (zt 68 61 (.call (.f (c 5)) [(.t 67)])) [0, 1, 2, 3, 4, 5, 6, 7, 8, 9, 10, 11, 12, 13, 14, 15, 16, 17, 18, 19, 20, 21, 22, 23, 24, 25, 26, 27, 28, 29, 30, 31, 32, 33] (.mv (zt 69 61 (.call (.f (c 7)) [(.t 66), (.t 68)])) [0, 1, 2, 3, 4, 5, 6, 7, 8, 9, 10, 11, 12, 13, 14, 15, 16, 17, 18, 19, 20, 21, 22, 23, 24, 25, 26, 27, 28, 29, 30, 31, 32, 33, 34] (.rd (zt 70 61 (.bin .eql .bl (.t 64) (.t 69))) 36 false (.rd (zs 71 (.pick (.t 61) (.t 70) zF)) 37 false (.rd (zs 72 (.mv false (.t 71))) 38 false (.rd (zt 73 72 (.loadA 45 (.t 3))) 39 false (.rd (zt 75 72 (.loadA 45 (.t 3))) 41 true (.mv (zt 74 72 (.call (.f (c 9)) [(.t 73)])) [0, 1, 2, 3, 4, 5, 6, 7, 8, 9, 10, 11, 12, 13, 14, 15, 16, 17, 18, 19, 20, 21, 22, 23, 24, 25, 26, 27, 28, 29, 30, 31, 32, 33, 34, 35, 36, 37, 38, 39] (.mv (zt 76 72 (.call (.f (c 5)) [(.t 75)])) [0, 1, 2, 3, 4, 5, 6, 7, 8, 9, 10, 11, 12, 13, 14, 15, 16, 17, 18, 19, 20, 21, 22, 23, 24, 25, 26, 27, 28, 29, 30, 31, 32, 33, 34, 35, 36, 37, 38, 39, 40, 41] (.mv (zt 77 72 (.call (.f (c 10)) [(.t 76)])) [0, 1, 2, 3, 4, 5, 6, 7, 8, 9, 10, 11, 12, 13, 14, 15, 16, 17, 18, 19, 20, 21, 22, 23, 24, 25, 26, 27, 28, 29, 30, 31, 32, 33, 34, 35, 36, 37, 38, 39, 40, 41, 42] (.rd (zt 78 72 (.bin .eql .bl (.t 74) (.t 77))) 44 false (.rd (zs 79 (.pick (.t 72) (.t 78) zF)) 45 false (.mv (zs 6 (.mv true (.t 79))) [0, 1, 2, 3, 4, 5, 6, 7, 8, 9, 10, 11, 12, 13, 14, 15, 16, 17, 18, 19, 20, 21, 22, 23, 24, 25, 26, 27, 28, 29, 30, 31, 32, 33, 34, 35, 36, 37, 38, 39, 40, 41, 42, 43, 44, 45] .done .stop))) .stop) .stop) .stop)))))) .stop) .stop) .stop) .stop))))))) .stop) .stop))))))))))))))))))) .stop) .stop)) .stop)))) .ret)
def y6s2 (c : Nat → FuncId) : LCode := (.seq (.sq [(zs 30 (.mv true (.t 2))), (zs 31 (.call (.f (c 3)) [(.t 30)])), (zs 29 (.mv false (.t 31))), (zs 32 (.ext (.t 29) 0)), (zs 33 (.ext (.t 29) 1)), (zs 9 (.alloc false ([(.s (.int .i64 0)), (.s (.int .i64 0)), (.s (.int .i64 0)), (.s (.int .i64 0)), (.s (.int .i64 0)), (.s (.int .i64 0))] ++ zk ++ zk ++ [(.s (.int .u8 0)), (.s .nilS), (.s .nilS), (.s (.str [])), (.s (.bool false)), (.s (.bool false)), (.s (.int .i64 0))]))), (zn (.store 45 (.t 9) (.t 32))), (zs 10 (.mv true (.t 33)))]) (y6s1 c))
def y6s3 (c : Nat → FuncId) : LCode := (.seq (.sq [(zs 25 (.mv false (.t 2))), (zs 26 (.call (.f (c 2)) [(.t 25)])), (zs 24 (.mv false (.t 26))), (zs 27 (.ext (.t 24) 0)), (zs 28 (.ext (.t 24) 1)), (zs 7 (.alloc false ([(.s (.int .i64 0)), (.s (.int .i64 0)), (.s (.int .i64 0)), (.s (.int .i64 0)), (.s (.int .i64 0)), (.s (.int .i64 0))] ++ zk ++ zk ++ [(.s (.int .u8 0)), (.s .nilS), (.s .nilS), (.s (.str [])), (.s (.bool false)), (.s (.bool false)), (.s (.int .i64 0))]))), (zn (.store 45 (.t 7) (.t 27))), (zs 8 (.mv true (.t 28)))]) (y6s2 c))
def y6s4 (c : Nat → FuncId) : LCode := (.seq (.seq (.sq [(zs 13 (.loadA 45 (.t 3))), (zs 14 (.call (.f (c 1)) [(.t 13)])), (zs 15 (.mv false (.t 14))), (zf 16 15 (.loadA 45 (.t 4))), (zf 17 15 (.call (.f (c 1)) [(.t 16)])), (zs 18 (.pick (.t 15) zT (.t 17))), (zs 19 (.mv false (.t 18))), (zf 20 19 (.mv false (.t 2))), (zf 21 19 (.len .sl (.t 20))), (zf 22 19 (.bin .gtr .sc (.t 21) (zi 3000))), (zs 23 (.pick (.t 19) zT (.t 22)))]) (.cond (.t 23) (.seq (.sq [(zs 6 (.mv true zT))]) .ret) .skip)) (y6s3 c))
def y6s5 (c : Nat → FuncId) : LCode := (.seq (.seq (.sq [(zs 11 (.call (.f (c 0)) [])), (zs 12 (.un .not (.t 11)))]) (.cond (.t 12) (.seq (.sq [(zs 6 (.mv true zF))]) .ret) .skip)) (y6s4 c))
def U_hourglasslaw19_MsgBytes (c : Nat → FuncId) := PLift.up (zc (zc (@unfC _ _ (y6s1.eq_1 c)) (@unfC _ _ (y6s2.eq_1 c))) (zc (@unfC _ _ (y6s3.eq_1 c)) (zc (@unfC _ _ (y6s4.eq_1 c)) (@unfC _ _ (y6s5.eq_1 c)))))
def C_hourglasslaw19_MsgBytes (c : Nat → FuncId) : LFn := ⟨80, [.t 6], (.seq (.sq [(zs 3 (.box false false (.t 0))), (zs 4 (.box false false (.t 1))), (zs 6 (.mv true zF))]) (y6s5 c))⟩
end Go.AM
namespace Go.AM
open Go
set_option maxRecDepth 20000
def y2h1 : LCode := (.seq (.sq [(zs 3 (.shift 0 (.t 1))), (zs 4 (.load1 false (.t 3))), (zs 5 (.bin .geq .sc (.t 4) (zi 0))), (zs 6 (.mv false (.t 5))), (zt 7 6 (.shift 0 (.t 1))), (zt 8 6 (.load1 false (.t 7))), (zt 9 6 (.bin .leq .sc (.t 8) (zi 36028797018963967))), (zs 10 (.pick (.t 6) (.t 9) zF)), (zs 2 (.mv true (.t 10)))]) .ret)
def U_hourglassref6_Good := PLift.up (@unfC _ _ (y2h1.eq_1))
def C_hourglassref6_Good : LFn := ⟨11, [.t 2], (.seq (.sq [(zs 1 (.box false false (.t 0))), (zs 2 (.mv true zF))]) y2h1)⟩
end Go.AM
