import Derived.Test.YthbiajoionockaaM9
/-! Running lowered code at symbolic values: what is still to be run is data. -/
namespace Go.AM
open Go
set_option linter.unusedVariables false

/-- What is still to be run. -/
inductive Item where
  | c (x : LCode)
  | blk (id : Nat)
  | lp (mask : List Bool) (b : LCode) (n0 : Nat)

def contK (C : CallW) (P : Program) (rd : Bool) : List Item → KC → KC
  | [], K => K
  | .c x :: is, K => roundK (fun fr σ => execL C P rd x fr σ (contK C P rd is K)) (contK C P rd is K)
  | .blk id :: is, K => blockK id (contK C P rd is K)
  | .lp mask b n0 :: is, K => roundK (fun fr σ => loopW (execL C P rd b) mask n0 fr σ (contK C P rd is K)) (contK C P rd is K)

section
variable {C : CallW} {P : Program} {rd : Bool}

def runC (C : CallW) (P : Program) (rd : Bool) (x : LCode) (is : List Item) (fr : Fr) (σ : St) (K : KC) : Prop := execL C P rd x fr σ (contK C P rd is K)
def nxt (C : CallW) (P : Program) (rd : Bool) (is : List Item) (fr : Fr) (σ : St) (K : KC) : Prop := contK C P rd is K .normal fr σ
def ext (C : CallW) (P : Program) (rd : Bool) (id : Nat) (is : List Item) (fr : Fr) (σ : St) (K : KC) : Prop := contK C P rd is K (.exit id) fr σ
def rtn (C : CallW) (P : Program) (rd : Bool) (is : List Item) (fr : Fr) (σ : St) (K : KC) : Prop := contK C P rd is K .ret fr σ
def runS (C : CallW) (P : Program) (rd : Bool) (l : List LStep) (is : List Item) (fr : Fr) (σ : St) (K : KC) : Prop := seqL C l fr σ (contK C P rd is K .normal)
def runT (C : CallW) (P : Program) (rd : Bool) (t : LT) (chk : List LChk) (is : List Item) (fr : Fr) (σ : St) (K : KC) : Prop := planL C t fr σ chk (contK C P rd is K .normal)
def runLp (C : CallW) (P : Program) (rd : Bool) (mask : List Bool) (b : LCode) (n0 : Nat) (is : List Item) (fr : Fr) (σ : St) (K : KC) : Prop := loopW (execL C P rd b) mask n0 fr σ (contK C P rd is K)

def cnd (C : CallW) (P : Program) (rd : Bool) (v : AV) (a b : LCode) (is : List Item) (fr : Fr) (σ : St) (K : KC) : Prop :=
  match v with
  | .s (.bool x) => (x = true → runC C P rd a is fr σ K) ∧ (x = false → runC C P rd b is fr σ K)
  | _ => False

theorem runC_skip {is fr σ K} : runC C P rd .skip is fr σ K = nxt C P rd is fr σ K := (rfl)
theorem runC_sq {l is fr σ K} : runC C P rd (.sq l) is fr σ K = runS C P rd l is fr σ K := (rfl)
theorem runC_tree {t is fr σ K} : runC C P rd (.tree t) is fr σ K = runT C P rd t [] is fr σ K := (rfl)
theorem runC_seq {a b is fr σ K} : runC C P rd (.seq a b) is fr σ K = runC C P rd a (.c b :: is) fr σ K := (rfl)
theorem runC_cond {c a b is fr σ K} : runC C P rd (.cond c a b) is fr σ K = cnd C P rd (opL fr c) a b is fr σ K := by
  show (match opL fr c with | .s (.bool x) => _ | _ => False) = _
  rfl
theorem runC_block {id b is fr σ K} : runC C P rd (.block id b) is fr σ K = runC C P rd b (.blk id :: is) fr σ K := (rfl)
theorem runC_loop {m b is fr S H K} : runC C P rd (.loop m b) is fr ⟨S, H⟩ K = runLp C P rd m b S.length is fr ⟨S, H⟩ K := (rfl)
theorem runC_exit {id is fr σ K} : runC C P rd (.exit id) is fr σ K = ext C P rd id is fr σ K := (rfl)
theorem runC_ret {is fr σ K} : runC C P rd .ret is fr σ K = rtn C P rd is fr σ K := (rfl)
theorem cnd_true {a b is fr σ K} : cnd C P rd (.s (.bool true)) a b is fr σ K = runC C P rd a is fr σ K := by simp [cnd]
theorem cnd_false {a b is fr σ K} : cnd C P rd (.s (.bool false)) a b is fr σ K = runC C P rd b is fr σ K := by simp [cnd]
theorem nxt_nil {fr σ K} : nxt C P rd [] fr σ K = K .normal fr σ := (rfl)
theorem nxt_c {x is fr σ K} : nxt C P rd (.c x :: is) fr σ K = runC C P rd x is fr σ K := (rfl)
theorem nxt_blk {id is fr σ K} : nxt C P rd (.blk id :: is) fr σ K = nxt C P rd is fr σ K := (rfl)
theorem nxt_lp {m b n0 is fr σ K} : nxt C P rd (.lp m b n0 :: is) fr σ K = runLp C P rd m b n0 is fr σ K := (rfl)
theorem ext_nil {id fr σ K} : ext C P rd id [] fr σ K = K (.exit id) fr σ := (rfl)
theorem ext_c {id x is fr σ K} : ext C P rd id (.c x :: is) fr σ K = ext C P rd id is fr σ K := (rfl)
theorem ext_blk {id id' is fr σ K} : ext C P rd id (.blk id' :: is) fr σ K = if id = id' then nxt C P rd is fr σ K else ext C P rd id is fr σ K := (rfl)
theorem ext_lp {id m b n0 is fr σ K} : ext C P rd id (.lp m b n0 :: is) fr σ K = ext C P rd id is fr σ K := (rfl)
theorem rtn_nil {fr σ K} : rtn C P rd [] fr σ K = K .ret fr σ := (rfl)
theorem rtn_c {x is fr σ K} : rtn C P rd (.c x :: is) fr σ K = rtn C P rd is fr σ K := (rfl)
theorem rtn_blk {id is fr σ K} : rtn C P rd (.blk id :: is) fr σ K = rtn C P rd is fr σ K := (rfl)
theorem rtn_lp {m b n0 is fr σ K} : rtn C P rd (.lp m b n0 :: is) fr σ K = rtn C P rd is fr σ K := (rfl)

/-- Behind an operation. -/
def thn (C : CallW) (P : Program) (rd : Bool) (d : Option Nat) (l : List LStep) (is : List Item) (K : KC) : Option (AV × Fr × St) → Prop
  | some (v, fr, σ) => runS C P rd l is (putA d v fr) σ K
  | none => False

/-- Behind a call. -/
def bak (C : CallW) (P : Program) (rd : Bool) (d : Option Nat) (l : List LStep) (is : List Item) (K : KC) (fr : Fr) (v : AV) (σ : St) : Prop := runS C P rd l is (putA d v fr) σ K

def call (C : CallW) (P : Program) (rd : Bool) (d : Option Nat) (l : List LStep) (is : List Item) (K : KC) (σ : St) (g : AV) (r : List AV × Fr) : Prop :=
  match g with
  | .fn (.func h) first captured => C (.fn h) (first ++ r.1 ++ captured) σ (bak C P rd d l is K r.2)
  | .yield h => C (.yield h) r.1 σ (bak C P rd d l is K r.2)
  | _ => False

def mayb : LOp → Fr → Bool
  | .bin op (.ref 1) x y, fr => isEq op && maybeNil (seL fr x) (seL fr y)
  | _, _ => false

/-- Of what is not known both must be borne. -/
def mb (C : CallW) (P : Program) (rd : Bool) (d : Option Nat) (l : List LStep) (is : List Item) (K : KC) (fr : Fr) (σ : St) (q : Prop) : Bool → Prop
  | true => ∀ b, runS C P rd l is (putA d (.bool b) fr) σ K
  | false => q

/-- An operation, and what is behind it. -/
def opS (C : CallW) (P : Program) (rd : Bool) (d : Option Nat) (op : LOp) (l : List LStep) (is : List Item) (fr : Fr) (σ : St) (K : KC) : Prop :=
  mb C P rd d l is K fr σ (doL C op (settleL fr (settledL op)) σ fun v fr' σ' => runS C P rd l is (putA d v fr') σ' K) (mayb op fr)

/-- Under a guard. -/
def grd (C : CallW) (P : Program) (rd : Bool) (d : Option Nat) (op : LOp) (l : List LStep) (is : List Item) (fr : Fr) (σ : St) (K : KC) : Option Bool → Prop
  | some g => (g = true → opS C P rd d op l is fr σ K) ∧ (g = false → runS C P rd l is (putA d (.tup []) fr) σ K)
  | none => False

theorem runS_nil {is fr σ K} : runS C P rd [] is fr σ K = nxt C P rd is fr σ K := (rfl)
theorem runS_op {d op l is fr σ K} : runS C P rd (⟨d, none, op⟩ :: l) is fr σ K = opS C P rd d op l is fr σ K := by
  have e : maybeS ⟨d, none, op⟩ fr = mayb op fr := by
    unfold maybeS mayb
    split
    · rename_i h; dsimp only at h; subst h; simp [guardL]
    · rename_i h
      split
      · rename_i h'; exact (h _ _ _ rfl).elim
      · rfl
  simp only [runS, seqL, opS, e]
  cases mayb op fr with
  | true => rfl
  | false => simp only [stepL, guardL, mb, true_implies, reduceCtorEq, false_implies, and_true, runS]
theorem runS_grd {d j w op l is fr σ K} : runS C P rd (⟨d, some (j, w), op⟩ :: l) is fr σ K = grd C P rd d op l is fr σ K (guardL fr (some (j, w))) := by
  have e : maybeS ⟨d, some (j, w), op⟩ fr = (mayb op fr && (guardL fr (some (j, w))) == some true) := by
    unfold maybeS mayb
    split
    · rename_i h; dsimp only at h; subst h
      cases hg : guardL fr (some (j, w)) with
      | none => simp
      | some b => cases b <;> simp
    · rename_i h
      split
      · rename_i h'; exact (h _ _ _ rfl).elim
      · rfl
  simp only [runS, seqL, e]
  cases hg : guardL fr (some (j, w)) with
  | none =>
    rw [show (mayb op fr && (none : Option Bool) == some true) = false by simp]
    simp only [stepL, hg, grd]
  | some b =>
    cases b with
    | false =>
      rw [show (mayb op fr && some false == some true) = false by simp]
      simp only [stepL, hg, grd, reduceCtorEq, false_implies, true_implies, true_and, runS]
    | true =>
      rw [show (mayb op fr && some true == some true) = mayb op fr by simp]
      simp only [grd, reduceCtorEq, false_implies, true_implies, and_true, opS]
      cases mayb op fr with
      | true => rfl
      | false => simp only [stepL, hg, mb, true_implies, reduceCtorEq, false_implies, and_true, runS]
theorem grd_true {d op l is fr σ K} : grd C P rd d op l is fr σ K (some true) = opS C P rd d op l is fr σ K := by simp [grd]
theorem grd_false {d op l is fr σ K} : grd C P rd d op l is fr σ K (some false) = runS C P rd l is (putA d (.tup []) fr) σ K := by simp [grd]

theorem opS_plain {d op l is fr σ K} (hp : op.plain = true) (hm : mayb op fr = false) : opS C P rd d op l is fr σ K = thn C P rd d l is K (evL op (settleL fr (settledL op)) σ) := by
  unfold opS
  rw [doL_plain hp, hm]
  show (match evL op (settleL fr (settledL op)) σ with | some r => _ | none => False) = _
  cases evL op (settleL fr (settledL op)) σ <;> rfl

theorem thn_some {d l is K v fr σ} : thn C P rd d l is K (some (v, fr, σ)) = runS C P rd l is (putA d v fr) σ K := (rfl)

theorem opS_call {d g args l is fr σ K} : opS C P rd d (.call g args) l is fr σ K = call C P rd d l is K σ (seL fr g) (tkAllL fr args) := by
  unfold opS call
  rw [show mayb (.call g args) fr = false from rfl]
  simp only [mb]
  unfold doL
  simp only [settledL, settleL]
  cases seL fr g with
  | fn fn a c => cases fn <;> rfl
  | _ => rfl
theorem call_fn {d l is K σ h a c vs fr} : call C P rd d l is K σ (.fn (.func h) a c) (vs, fr) = C (.fn h) (a ++ vs ++ c) σ (bak C P rd d l is K fr) := (rfl)
theorem call_yield {d l is K σ h vs fr} : call C P rd d l is K σ (.yield h) (vs, fr) = C (.yield h) vs σ (bak C P rd d l is K fr) := (rfl)
theorem bak_eq {d l is K fr v σ} : bak C P rd d l is K fr v σ = runS C P rd l is (putA d v fr) σ K := (rfl)

/-! The operations, one by one -/
theorem e_mv {d tk x l is fr σ K} : opS C P rd d (.mv tk x) l is fr σ K = runS C P rd l is (putA d (tkL tk fr x).1 (tkL tk fr x).2) σ K := (rfl)
theorem e_pick {d c a b l is fr σ K} : opS C P rd d (.pick c a b) l is fr σ K = thn C P rd d l is K (evL (.pick c a b) fr σ) := opS_plain rfl rfl
theorem e_alloc {d hp z l is fr σ K} : opS C P rd d (.alloc hp z) l is fr σ K = thn C P rd d l is K ((newBox hp z σ).map fun r => (.ptr r.1 0, fr, r.2)) := opS_plain rfl rfl
theorem e_box {d tk hp x l is fr σ K} : opS C P rd d (.box tk hp x) l is fr σ K = thn C P rd d l is K (evL (.box tk hp x) fr σ) := opS_plain rfl rfl
theorem e_build {d z ps l is fr σ K} : opS C P rd d (.build z ps) l is fr σ K = thn C P rd d l is K (evL (.build z ps) (settleL fr (ps.map (·.2.2))) σ) := opS_plain rfl rfl
theorem e_bsl {d e n ps l is fr σ K} : opS C P rd d (.bsl e n ps) l is fr σ K = thn C P rd d l is K (evL (.bsl e n ps) (settleL fr (ps.map (·.2))) σ) := opS_plain rfl rfl
theorem e_loadA {d n x l is fr σ K} : opS C P rd d (.loadA n x) l is fr σ K = thn C P rd d l is K ((readA σ (seL fr x) n).map fun v => (v, fr, σ)) := opS_plain rfl rfl
theorem e_load1 {d tk x l is fr σ K} : opS C P rd d (.load1 tk x) l is fr σ K = thn C P rd d l is K ((load1L tk (seL fr x) σ).map fun r => (r.1, fr, r.2)) := opS_plain rfl rfl
theorem e_store {d n p x l is fr σ K} : opS C P rd d (.store n p x) l is fr σ K = thn C P rd d l is K ((storeL n (seL (tkL true fr x).2 p) (tkL true fr x).1.calm σ).map fun σ => (.undef, (tkL true fr x).2, σ)) := opS_plain rfl rfl
theorem e_nilc {d x l is fr σ K} : opS C P rd d (.nilc x) l is fr σ K = thn C P rd d l is K (evL (.nilc x) fr σ) := opS_plain rfl rfl
theorem e_bin {d op k x y l is fr σ K} : opS C P rd d (.bin op k x y) l is fr σ K = mb C P rd d l is K fr σ (thn C P rd d l is K ((binL op k (seL fr x) (seL fr y)).map fun v => (v, fr, σ))) (mayb (.bin op k x y) fr) := by
  cases hm : mayb (.bin op k x y) fr with
  | false => exact opS_plain rfl hm
  | true => unfold opS; rw [hm]; rfl
theorem mb_t {d l is K fr σ q} : mb C P rd d l is K fr σ q true = ∀ b, runS C P rd l is (putA d (.bool b) fr) σ K := (rfl)
theorem mb_f {d l is K fr σ q} : mb C P rd d l is K fr σ q false = q := (rfl)
theorem mayb_sc {op x y fr} : mayb (.bin op .sc x y) fr = false := (rfl)
theorem mayb_bl {op x y fr} : mayb (.bin op .bl x y) fr = false := (rfl)
theorem mayb_leaf {op ls x y fr} : mayb (.bin op (.leaf ls) x y) fr = false := (rfl)
theorem mayb_r0 {op x y fr} : mayb (.bin op (.ref 0) x y) fr = false := (rfl)
theorem mayb_r1 {op x y fr} : mayb (.bin op (.ref 1) x y) fr = (isEq op && maybeNil (seL fr x) (seL fr y)) := (rfl)
theorem mayb_r2 {op x y fr} : mayb (.bin op (.ref 2) x y) fr = false := (rfl)
theorem mayb_r3 {op x y fr} : mayb (.bin op (.ref 3) x y) fr = false := (rfl)
theorem e_un {d op x l is fr σ K} : opS C P rd d (.un op x) l is fr σ K = thn C P rd d l is K ((unL op (seL fr x)).map fun v => (v, fr, σ)) := opS_plain rfl rfl
theorem e_conv {d k x l is fr σ K} : opS C P rd d (.conv k x) l is fr σ K = thn C P rd d l is K ((convL k (seL (settleL fr [x]) x) σ).map fun v => (v, settleL fr [x], σ)) := opS_plain rfl rfl
theorem e_mkfn {d f a b l is fr σ K} : opS C P rd d (.mkfn f a b) l is fr σ K = runS C P rd l is (putA d (.fn (.func f) (a.map (seL fr)) (b.map (seL fr))) fr) σ K := (rfl)
theorem e_mkmap {d r l is fr σ K} : opS C P rd d (.mkmap r) l is fr σ K = thn C P rd d l is K (evL (.mkmap r) fr σ) := opS_plain rfl rfl
theorem e_mksl {d tk hp e a c l is fr σ K} : opS C P rd d (.mksl tk hp e a c) l is fr σ K = thn C P rd d l is K ((mkslL tk hp e (seL fr a) (seL fr c) σ).map fun r => (r.1, fr, r.2)) := opS_plain rfl rfl
theorem e_slc {d k x lo hi mx l is fr σ K} : opS C P rd d (.slc k x lo hi mx) l is fr σ K = thn C P rd d l is K ((sliceL k (seL (settleL fr [x]) x) (lo.map (seL (settleL fr [x]))) (hi.map (seL (settleL fr [x]))) (mx.map (seL (settleL fr [x])))).map fun v => (v, settleL fr [x], σ)) := opS_plain rfl rfl
theorem e_shift {d o x l is fr σ K} : opS C P rd d (.shift o x) l is fr σ K = thn C P rd d l is K ((shift (seL fr x) o).map fun v => (v, fr, σ)) := opS_plain rfl rfl
theorem e_part {d ag o x l is fr σ K} : opS C P rd d (.part ag o x) l is fr σ K = thn C P rd d l is K (evL (.part ag o x) fr σ) := opS_plain rfl rfl
theorem e_ixa {d k x i l is fr σ K} : opS C P rd d (.ixa k x i) l is fr σ K = thn C P rd d l is K ((indexAddrL k (seL (settleL fr [x]) x) (seL (settleL fr [x]) i)).map fun v => (v, settleL fr [x], σ)) := opS_plain rfl rfl
theorem e_ixs {d x i l is fr σ K} : opS C P rd d (.ixs x i) l is fr σ K = thn C P rd d l is K (evL (.ixs x i) fr σ) := opS_plain rfl rfl
theorem e_ixv {d n c ag x i l is fr σ K} : opS C P rd d (.ixv n c ag x i) l is fr σ K = thn C P rd d l is K (evL (.ixv n c ag x i) fr σ) := opS_plain rfl rfl
theorem e_look {d kk z ok m k l is fr σ K} : opS C P rd d (.look kk z ok m k) l is fr σ K = thn C P rd d l is K ((lookupL kk z ok (seL fr m) (seL fr k) σ).map fun v => (v, fr, σ)) := opS_plain rfl rfl
theorem e_upd {d kk m k v l is fr σ K} : opS C P rd d (.upd kk m k v) l is fr σ K = thn C P rd d l is K (evL (.upd kk m k v) (settleL fr [v]) σ) := opS_plain rfl rfl
theorem e_ext {d x i l is fr σ K} : opS C P rd d (.ext x i) l is fr σ K = thn C P rd d l is K (evL (.ext x i) fr σ) := opS_plain rfl rfl
theorem e_len {d k x l is fr σ K} : opS C P rd d (.len k x) l is fr σ K = thn C P rd d l is K ((lenL k (seL (settleL fr [x]) x) σ).map fun (n : Nat) => (AV.i n, settleL fr [x], σ)) := opS_plain rfl rfl
theorem e_cap {d x l is fr σ K} : opS C P rd d (.cap x) l is fr σ K = thn C P rd d l is K ((capL (seL (settleL fr [x]) x)).map fun (n : Nat) => (AV.i n, settleL fr [x], σ)) := opS_plain rfl rfl
theorem e_app {d e b s x l is fr σ K} : opS C P rd d (.app e b s x) l is fr σ K = thn C P rd d l is K (evL (.app e b s x) (settleL fr [x]) σ) := opS_plain rfl rfl
theorem e_cpy {d e b s x l is fr σ K} : opS C P rd d (.cpy e b s x) l is fr σ K = thn C P rd d l is K ((copyL e b (seL fr s) (seL fr x) σ).map fun r => (r.1, fr, r.2)) := opS_plain rfl rfl
theorem e_del {d kk m k l is fr σ K} : opS C P rd d (.del kk m k) l is fr σ K = thn C P rd d l is K ((deleteL kk (seL fr m) (seL fr k) σ).map fun σ => (.tup [], fr, σ)) := opS_plain rfl rfl
theorem e_clr {d e x l is fr σ K} : opS C P rd d (.clr e x) l is fr σ K = thn C P rd d l is K ((clearL e (seL fr x) σ).map fun σ => (.tup [], fr, σ)) := opS_plain rfl rfl
theorem e_mn {d x y l is fr σ K} : opS C P rd d (.mn x y) l is fr σ K = thn C P rd d l is K (evL (.mn x y) fr σ) := opS_plain rfl rfl
theorem e_mx {d x y l is fr σ K} : opS C P rd d (.mx x y) l is fr σ K = thn C P rd d l is K (evL (.mx x y) fr σ) := opS_plain rfl rfl
theorem e_thaw {d t l is fr σ K} : opS C P rd d (.thaw t) l is fr σ K = thn C P rd d l is K (AM.thaw fr (.tmp t) σ) := opS_plain rfl rfl
theorem e_frz {d e x l is fr σ K} : opS C P rd d (.frz e x) l is fr σ K = thn C P rd d l is K ((freezeL e (seL fr x) σ).map fun r => (r.1, fr, r.2)) := opS_plain rfl rfl

/-! Regions of a drawn order -/
def rdV (C : CallW) (P : Program) (rd : Bool) (s : LStep) (i : Nat) (ck : Bool) (rest : LT) (chk : List LChk) (is : List Item) (fr : Fr) (σ : St) (K : KC) : Option AV → Prop
  | some v => runT C P rd rest (if (ck && depL fr s.op) = true then ⟨i, s, fr, v⟩ :: chk else chk) is (putA s.dst v fr) σ K
  | none => False
def rdG (C : CallW) (P : Program) (rd : Bool) (s : LStep) (i : Nat) (ck : Bool) (rest : LT) (chk : List LChk) (is : List Item) (fr : Fr) (σ : St) (K : KC) : Option Bool → Prop
  | some g => (g = true → rdV C P rd s i ck rest chk is fr σ K (readL s fr σ)) ∧ (g = false → runT C P rd rest chk is (putA s.dst (.tup []) fr) σ K)
  | none => False
def mvK (C : CallW) (P : Program) (rd : Bool) (drop : List Nat) (chk : List LChk) (rest : LT) (is : List Item) (K : KC) (fr : Fr) (σ : St) : Prop :=
  (chk.filter fun c => !drop.contains c.i).all (fun c => c.ok σ) = true ∧ runT C P rd rest (chk.filter fun c => !drop.contains c.i) is fr σ K
def opT (C : CallW) (P : Program) (rd : Bool) (d : Option Nat) (op : LOp) (drop : List Nat) (chk : List LChk) (rest : LT) (is : List Item) (K : KC) (fr : Fr) (σ : St) : Prop :=
  doL C op (settleL fr (settledL op)) σ fun v fr' σ' => mvK C P rd drop chk rest is K (putA d v fr') σ'
def mvG (C : CallW) (P : Program) (rd : Bool) (d : Option Nat) (op : LOp) (drop : List Nat) (chk : List LChk) (rest : LT) (is : List Item) (K : KC) (fr : Fr) (σ : St) : Option Bool → Prop
  | some g => (g = true → opT C P rd d op drop chk rest is K fr σ) ∧ (g = false → mvK C P rd drop chk rest is K (putA d (.tup []) fr) σ)
  | none => False
def thnT (C : CallW) (P : Program) (rd : Bool) (d : Option Nat) (drop : List Nat) (chk : List LChk) (rest : LT) (is : List Item) (K : KC) : Option (AV × Fr × St) → Prop
  | some (v, fr, σ) => mvK C P rd drop chk rest is K (putA d v fr) σ
  | none => False
def bakT (C : CallW) (P : Program) (rd : Bool) (d : Option Nat) (drop : List Nat) (chk : List LChk) (rest : LT) (is : List Item) (K : KC) (fr : Fr) (v : AV) (σ : St) : Prop := mvK C P rd drop chk rest is K (putA d v fr) σ
def callT (C : CallW) (P : Program) (rd : Bool) (d : Option Nat) (drop : List Nat) (chk : List LChk) (rest : LT) (is : List Item) (K : KC) (σ : St) (g : AV) (r : List AV × Fr) : Prop :=
  match g with
  | .fn (.func h) first captured => C (.fn h) (first ++ r.1 ++ captured) σ (bakT C P rd d drop chk rest is K r.2)
  | .yield h => C (.yield h) r.1 σ (bakT C P rd d drop chk rest is K r.2)
  | _ => False

theorem runT_done {chk is fr σ K} : runT C P rd .done chk is fr σ K = nxt C P rd is fr σ K := (rfl)
theorem runT_stop {chk is fr σ K} : runT C P rd .stop chk is fr σ K = True := (rfl)
theorem runT_rd {s i ck rest chk is fr σ K} : runT C P rd (.rd s i ck rest) chk is fr σ K = rdG C P rd s i ck rest chk is fr σ K (guardL fr s.guard) := by
  show (match guardL fr s.guard with | some g => _ | none => False) = _
  cases guardL fr s.guard with
  | none => rfl
  | some g =>
    show (_ ∧ _) = (_ ∧ _)
    refine congr (congrArg And ?_) rfl
    cases readL s fr σ <;> rfl
theorem rdG_true {s i ck rest chk is fr σ K} : rdG C P rd s i ck rest chk is fr σ K (some true) = rdV C P rd s i ck rest chk is fr σ K (readL s fr σ) := by simp [rdG]
theorem rdG_false {s i ck rest chk is fr σ K} : rdG C P rd s i ck rest chk is fr σ K (some false) = runT C P rd rest chk is (putA s.dst (.tup []) fr) σ K := by simp [rdG]
theorem rdV_some {s i ck rest chk is fr σ K v} : rdV C P rd s i ck rest chk is fr σ K (some v) = runT C P rd rest (if (ck && depL fr s.op) = true then ⟨i, s, fr, v⟩ :: chk else chk) is (putA s.dst v fr) σ K := (rfl)
theorem runT_mv {d g op drop rest alt chk is fr σ K} : runT C P rd (.mv ⟨d, g, op⟩ drop rest alt) chk is fr σ K = (mvG C P rd d op drop chk rest is K fr σ (guardL fr g) ∧ runT C P rd alt chk is fr σ K) := by
  show (stepL C ⟨d, g, op⟩ fr σ _ ∧ _) = _
  refine congr (congrArg And ?_) rfl
  unfold stepL
  cases guardL fr g <;> rfl
theorem mvG_true {d op drop rest chk is fr σ K} : mvG C P rd d op drop chk rest is K fr σ (some true) = opT C P rd d op drop chk rest is K fr σ := by simp [mvG]
theorem mvG_false {d op drop rest chk is fr σ K} : mvG C P rd d op drop chk rest is K fr σ (some false) = mvK C P rd drop chk rest is K (putA d (.tup []) fr) σ := by simp [mvG]
theorem opT_plain {d op drop rest chk is fr σ K} (hp : op.plain = true) : opT C P rd d op drop chk rest is K fr σ = thnT C P rd d drop chk rest is K (evL op (settleL fr (settledL op)) σ) := by
  unfold opT
  rw [doL_plain hp]
  cases evL op (settleL fr (settledL op)) σ <;> rfl
theorem t_mv {d tk x drop rest chk is fr σ K} : opT C P rd d (.mv tk x) drop chk rest is K fr σ = thnT C P rd d drop chk rest is K (evL (.mv tk x) (settleL fr (settledL (.mv tk x))) σ) := opT_plain rfl
theorem t_pick {d c a b drop rest chk is fr σ K} : opT C P rd d (.pick c a b) drop chk rest is K fr σ = thnT C P rd d drop chk rest is K (evL (.pick c a b) (settleL fr (settledL (.pick c a b))) σ) := opT_plain rfl
theorem t_alloc {d hp z drop rest chk is fr σ K} : opT C P rd d (.alloc hp z) drop chk rest is K fr σ = thnT C P rd d drop chk rest is K (evL (.alloc hp z) (settleL fr (settledL (.alloc hp z))) σ) := opT_plain rfl
theorem t_box {d tk hp x drop rest chk is fr σ K} : opT C P rd d (.box tk hp x) drop chk rest is K fr σ = thnT C P rd d drop chk rest is K (evL (.box tk hp x) (settleL fr (settledL (.box tk hp x))) σ) := opT_plain rfl
theorem t_build {d z ps drop rest chk is fr σ K} : opT C P rd d (.build z ps) drop chk rest is K fr σ = thnT C P rd d drop chk rest is K (evL (.build z ps) (settleL fr (settledL (.build z ps))) σ) := opT_plain rfl
theorem t_bsl {d e n ps drop rest chk is fr σ K} : opT C P rd d (.bsl e n ps) drop chk rest is K fr σ = thnT C P rd d drop chk rest is K (evL (.bsl e n ps) (settleL fr (settledL (.bsl e n ps))) σ) := opT_plain rfl
theorem t_loadA {d n x drop rest chk is fr σ K} : opT C P rd d (.loadA n x) drop chk rest is K fr σ = thnT C P rd d drop chk rest is K (evL (.loadA n x) (settleL fr (settledL (.loadA n x))) σ) := opT_plain rfl
theorem t_load1 {d tk x drop rest chk is fr σ K} : opT C P rd d (.load1 tk x) drop chk rest is K fr σ = thnT C P rd d drop chk rest is K (evL (.load1 tk x) (settleL fr (settledL (.load1 tk x))) σ) := opT_plain rfl
theorem t_store {d n p x drop rest chk is fr σ K} : opT C P rd d (.store n p x) drop chk rest is K fr σ = thnT C P rd d drop chk rest is K (evL (.store n p x) (settleL fr (settledL (.store n p x))) σ) := opT_plain rfl
theorem t_nilc {d x drop rest chk is fr σ K} : opT C P rd d (.nilc x) drop chk rest is K fr σ = thnT C P rd d drop chk rest is K (evL (.nilc x) (settleL fr (settledL (.nilc x))) σ) := opT_plain rfl
theorem t_bin {d op k x y drop rest chk is fr σ K} : opT C P rd d (.bin op k x y) drop chk rest is K fr σ = thnT C P rd d drop chk rest is K (evL (.bin op k x y) (settleL fr (settledL (.bin op k x y))) σ) := opT_plain rfl
theorem t_un {d op x drop rest chk is fr σ K} : opT C P rd d (.un op x) drop chk rest is K fr σ = thnT C P rd d drop chk rest is K (evL (.un op x) (settleL fr (settledL (.un op x))) σ) := opT_plain rfl
theorem t_conv {d k x drop rest chk is fr σ K} : opT C P rd d (.conv k x) drop chk rest is K fr σ = thnT C P rd d drop chk rest is K (evL (.conv k x) (settleL fr (settledL (.conv k x))) σ) := opT_plain rfl
theorem t_mkfn {d f a b drop rest chk is fr σ K} : opT C P rd d (.mkfn f a b) drop chk rest is K fr σ = thnT C P rd d drop chk rest is K (evL (.mkfn f a b) (settleL fr (settledL (.mkfn f a b))) σ) := opT_plain rfl
theorem t_mkmap {d r drop rest chk is fr σ K} : opT C P rd d (.mkmap r) drop chk rest is K fr σ = thnT C P rd d drop chk rest is K (evL (.mkmap r) (settleL fr (settledL (.mkmap r))) σ) := opT_plain rfl
theorem t_mksl {d tk hp e a c drop rest chk is fr σ K} : opT C P rd d (.mksl tk hp e a c) drop chk rest is K fr σ = thnT C P rd d drop chk rest is K (evL (.mksl tk hp e a c) (settleL fr (settledL (.mksl tk hp e a c))) σ) := opT_plain rfl
theorem t_slc {d k x lo hi mx drop rest chk is fr σ K} : opT C P rd d (.slc k x lo hi mx) drop chk rest is K fr σ = thnT C P rd d drop chk rest is K (evL (.slc k x lo hi mx) (settleL fr (settledL (.slc k x lo hi mx))) σ) := opT_plain rfl
theorem t_shift {d o x drop rest chk is fr σ K} : opT C P rd d (.shift o x) drop chk rest is K fr σ = thnT C P rd d drop chk rest is K (evL (.shift o x) (settleL fr (settledL (.shift o x))) σ) := opT_plain rfl
theorem t_part {d ag o x drop rest chk is fr σ K} : opT C P rd d (.part ag o x) drop chk rest is K fr σ = thnT C P rd d drop chk rest is K (evL (.part ag o x) (settleL fr (settledL (.part ag o x))) σ) := opT_plain rfl
theorem t_ixa {d k x i drop rest chk is fr σ K} : opT C P rd d (.ixa k x i) drop chk rest is K fr σ = thnT C P rd d drop chk rest is K (evL (.ixa k x i) (settleL fr (settledL (.ixa k x i))) σ) := opT_plain rfl
theorem t_ixs {d x i drop rest chk is fr σ K} : opT C P rd d (.ixs x i) drop chk rest is K fr σ = thnT C P rd d drop chk rest is K (evL (.ixs x i) (settleL fr (settledL (.ixs x i))) σ) := opT_plain rfl
theorem t_ixv {d n c ag x i drop rest chk is fr σ K} : opT C P rd d (.ixv n c ag x i) drop chk rest is K fr σ = thnT C P rd d drop chk rest is K (evL (.ixv n c ag x i) (settleL fr (settledL (.ixv n c ag x i))) σ) := opT_plain rfl
theorem t_look {d kk z ok m k drop rest chk is fr σ K} : opT C P rd d (.look kk z ok m k) drop chk rest is K fr σ = thnT C P rd d drop chk rest is K (evL (.look kk z ok m k) (settleL fr (settledL (.look kk z ok m k))) σ) := opT_plain rfl
theorem t_upd {d kk m k v drop rest chk is fr σ K} : opT C P rd d (.upd kk m k v) drop chk rest is K fr σ = thnT C P rd d drop chk rest is K (evL (.upd kk m k v) (settleL fr (settledL (.upd kk m k v))) σ) := opT_plain rfl
theorem t_ext {d x i drop rest chk is fr σ K} : opT C P rd d (.ext x i) drop chk rest is K fr σ = thnT C P rd d drop chk rest is K (evL (.ext x i) (settleL fr (settledL (.ext x i))) σ) := opT_plain rfl
theorem t_len {d k x drop rest chk is fr σ K} : opT C P rd d (.len k x) drop chk rest is K fr σ = thnT C P rd d drop chk rest is K (evL (.len k x) (settleL fr (settledL (.len k x))) σ) := opT_plain rfl
theorem t_cap {d x drop rest chk is fr σ K} : opT C P rd d (.cap x) drop chk rest is K fr σ = thnT C P rd d drop chk rest is K (evL (.cap x) (settleL fr (settledL (.cap x))) σ) := opT_plain rfl
theorem t_app {d e b s x drop rest chk is fr σ K} : opT C P rd d (.app e b s x) drop chk rest is K fr σ = thnT C P rd d drop chk rest is K (evL (.app e b s x) (settleL fr (settledL (.app e b s x))) σ) := opT_plain rfl
theorem t_cpy {d e b s x drop rest chk is fr σ K} : opT C P rd d (.cpy e b s x) drop chk rest is K fr σ = thnT C P rd d drop chk rest is K (evL (.cpy e b s x) (settleL fr (settledL (.cpy e b s x))) σ) := opT_plain rfl
theorem t_del {d kk m k drop rest chk is fr σ K} : opT C P rd d (.del kk m k) drop chk rest is K fr σ = thnT C P rd d drop chk rest is K (evL (.del kk m k) (settleL fr (settledL (.del kk m k))) σ) := opT_plain rfl
theorem t_clr {d e x drop rest chk is fr σ K} : opT C P rd d (.clr e x) drop chk rest is K fr σ = thnT C P rd d drop chk rest is K (evL (.clr e x) (settleL fr (settledL (.clr e x))) σ) := opT_plain rfl
theorem t_mn {d x y drop rest chk is fr σ K} : opT C P rd d (.mn x y) drop chk rest is K fr σ = thnT C P rd d drop chk rest is K (evL (.mn x y) (settleL fr (settledL (.mn x y))) σ) := opT_plain rfl
theorem t_mx {d x y drop rest chk is fr σ K} : opT C P rd d (.mx x y) drop chk rest is K fr σ = thnT C P rd d drop chk rest is K (evL (.mx x y) (settleL fr (settledL (.mx x y))) σ) := opT_plain rfl
theorem t_thaw {d t drop rest chk is fr σ K} : opT C P rd d (.thaw t) drop chk rest is K fr σ = thnT C P rd d drop chk rest is K (evL (.thaw t) (settleL fr (settledL (.thaw t))) σ) := opT_plain rfl
theorem t_frz {d e x drop rest chk is fr σ K} : opT C P rd d (.frz e x) drop chk rest is K fr σ = thnT C P rd d drop chk rest is K (evL (.frz e x) (settleL fr (settledL (.frz e x))) σ) := opT_plain rfl
theorem thnT_some {d drop rest chk is K v fr σ} : thnT C P rd d drop chk rest is K (some (v, fr, σ)) = mvK C P rd drop chk rest is K (putA d v fr) σ := (rfl)
theorem opT_call {d g args drop rest chk is fr σ K} : opT C P rd d (.call g args) drop chk rest is K fr σ = callT C P rd d drop chk rest is K σ (seL fr g) (tkAllL fr args) := by
  unfold opT callT doL
  simp only [settledL, settleL]
  cases seL fr g with
  | fn fn a c => cases fn <;> rfl
  | _ => rfl
theorem callT_fn {d drop rest chk is K σ h a c vs fr} : callT C P rd d drop chk rest is K σ (.fn (.func h) a c) (vs, fr) = C (.fn h) (a ++ vs ++ c) σ (bakT C P rd d drop chk rest is K fr) := (rfl)
theorem callT_yield {d drop rest chk is K σ h vs fr} : callT C P rd d drop chk rest is K σ (.yield h) (vs, fr) = C (.yield h) vs σ (bakT C P rd d drop chk rest is K fr) := (rfl)
theorem bakT_eq {d drop rest chk is K fr v σ} : bakT C P rd d drop chk rest is K fr v σ = mvK C P rd drop chk rest is K (putA d v fr) σ := (rfl)
theorem mvK_nil {drop rest is K fr σ} : mvK C P rd drop [] rest is K fr σ = runT C P rd rest [] is fr σ K := by simp [mvK]
theorem unfC {x y : LCode} (h : x = y) : ∀ {C : CallW} {P : Program} {rd : Bool} {is : List Item} {fr : Fr} {σ : St} {K : KC}, runC C P rd x is fr σ K = runC C P rd y is fr σ K := by subst h; intros; rfl
def cs (l : List FuncId) (n : Nat) : FuncId := l.getD n 0

/-! A function -/
def fin (base : Nat) (rs : List LR) (K : AV → St → Prop) : KC := finL base rs K

theorem run_fn {F : LFn} {args : List AV} {S H} {K : AV → St → Prop} : runL C P F args ⟨S, H⟩ K = runC C P false F.code [] (args ++ List.replicate (F.ntmps - args.length) .undef) ⟨S, H⟩ (fin S.length F.res K) := (rfl)

def end1 (base : Nat) (K : AV → St → Prop) (σ : St) : Option (List AV) → Prop
  | some [v] => v.under base = true ∧ K v { σ with stk := σ.stk.take base }
  | some vs => underL base vs = true ∧ K (.tup (vs.map AV.look)) { σ with stk := σ.stk.take base }
  | none => False

theorem fin_ret {base rs K fr σ} : fin base rs K .ret fr σ = end1 base K σ (ressL fr σ rs) := (rfl)
theorem fin_normal {base rs K fr σ} : fin base rs K .normal fr σ = end1 base K σ (ressL fr σ rs) := (rfl)
theorem end1_nil {base K S H} : end1 base K ⟨S, H⟩ (some []) = K (.tup []) ⟨S.take base, H⟩ := by simp [end1, AV.under.go]
theorem end1_one {base K S H v} : end1 base K ⟨S, H⟩ (some [v]) = (v.under base = true ∧ K v ⟨S.take base, H⟩) := (rfl)
theorem end1_two {base K S H v u} : end1 base K ⟨S, H⟩ (some [v, u]) = (underL base [v, u] = true ∧ K (.tup [v.look, u.look]) ⟨S.take base, H⟩) := (rfl)
theorem end1_three {base K S H v u t} : end1 base K ⟨S, H⟩ (some [v, u, t]) = (underL base [v, u, t] = true ∧ K (.tup [v.look, u.look, t.look]) ⟨S.take base, H⟩) := (rfl)
theorem end1_four {base K S H v u t s} : end1 base K ⟨S, H⟩ (some [v, u, t, s]) = (underL base [v, u, t, s] = true ∧ K (.tup [v.look, u.look, t.look, s.look]) ⟨S.take base, H⟩) := (rfl)

def cns (v : AV) : Option (List AV) → Option (List AV)
  | some vs => some (v :: vs)
  | none => none
theorem ress_nil {fr σ} : ressL fr σ [] = some [] := (rfl)
theorem ress_t {fr σ n rs} : ressL fr σ (.t n :: rs) = cns (fr.getD n .undef) (ressL fr σ rs) := by
  simp only [ressL, resL]
  cases ressL fr σ rs <;> rfl
theorem cns_some {v vs} : cns v (some vs) = some (v :: vs) := (rfl)
def cns2 (v : Option AV) (r : Option (List AV)) : Option (List AV) := match v with
  | some v => cns v r
  | none => none
theorem ress_many {fr σ a n rs} : ressL fr σ (.many a n :: rs) = cns2 (readA σ (fr.getD a .undef) n) (ressL fr σ rs) := by
  simp only [ressL, resL, cns2]
  cases readA σ (fr.getD a .undef) n <;> cases ressL fr σ rs <;> rfl
theorem ress_one {fr σ a rs} : ressL fr σ (.one a :: rs) = cns2 ((load1L false (fr.getD a .undef) σ).map (·.1)) (ressL fr σ rs) := by
  simp only [ressL, resL, cns2]
  cases (load1L false (fr.getD a .undef) σ).map (·.1) <;> cases ressL fr σ rs <;> rfl
theorem cns2_some {v r} : cns2 (some v) r = cns v r := (rfl)

/-! Loops -/
theorem doL_mono (hC : LeC C C) {op : LOp} {fr σ} {K K' : AV → Fr → St → Prop} (hK : ∀ v fr σ, K v fr σ → K' v fr σ) : doL C op fr σ K → doL C op fr σ K' := by
  unfold doL
  split
  · split
    · split
      · exact fun h1 => hK _ _ _ h1
      · exact id
    · exact fun h1 => hK _ _ _ h1
    · exact id
  · split
    · split
      · exact fun h1 => hK _ _ _ h1
      · split
        · exact fun h1 => ⟨h1.1, fun k => hK _ _ _ (h1.2.1 k), fun e he hs => hK _ _ _ (h1.2.2 e he hs)⟩
        · exact id
    · exact id
  · split
    · split
      · split
        · refine fun h1 => ⟨h1.1, ?_⟩
          have h2 := h1.2
          split at h2
          · exact hK _ _ _ h2
          · exact h2
        · exact id
      · exact id
    · exact id
  · split
    · exact fun h1 => hC _ _ _ _ _ (fun v s k => hK _ _ _ k) h1
    · exact fun h1 => hC _ _ _ _ _ (fun v s k => hK _ _ _ k) h1
    · exact id
  · split
    · exact fun h1 => hK _ _ _ h1
    · exact id

theorem stepL_mono (hC : LeC C C) {s : LStep} {fr σ} {K K' : Fr → St → Prop} (hK : ∀ fr σ, K fr σ → K' fr σ) (h : stepL C s fr σ K) : stepL C s fr σ K' := by
  unfold stepL at h ⊢
  split at h
  · exact ⟨fun hg => doL_mono hC (fun _ _ _ k => hK _ _ k) (h.1 hg), fun hg => hK _ _ (h.2 hg)⟩
  · exact h

theorem seqL_mono {hC : LeC C C} : ∀ (l : List LStep) {fr σ} {K K' : Fr → St → Prop}, (∀ fr σ, K fr σ → K' fr σ) → seqL C l fr σ K → seqL C l fr σ K' := by
  intro l
  induction l with
  | nil => intro fr σ K K' hK h; exact hK _ _ h
  | cons s l ih =>
    intro fr σ K K' hK h
    simp only [seqL] at h ⊢
    split at h
    · exact fun b => ih hK (h b)
    · exact stepL_mono hC (fun _ _ k => ih hK k) h

theorem planL_mono (hC : LeC C C) : ∀ (t : LT) {fr σ chk} {K K' : Fr → St → Prop}, (∀ fr σ, K fr σ → K' fr σ) → planL C t fr σ chk K → planL C t fr σ chk K'
  | .done, fr, σ, chk, K, K', hK, h => hK _ _ h
  | .stop, fr, σ, chk, K, K', hK, h => trivial
  | .rd s i ck rest, fr, σ, chk, K, K', hK, h => by
    simp only [planL] at h ⊢
    split at h
    · refine ⟨fun hg => ?_, fun hg => planL_mono hC rest hK (h.2 hg)⟩
      have h1 := h.1 hg
      split at h1
      · exact planL_mono hC rest hK h1
      · exact h1
    · exact h
  | .mv s drop rest alt, fr, σ, chk, K, K', hK, h => by
    simp only [planL] at h ⊢
    exact ⟨stepL_mono hC (fun fr σ k => ⟨k.1, planL_mono hC rest hK k.2⟩) h.1, planL_mono hC alt hK h.2⟩

theorem execL_mono (hC : LeC C C) : ∀ (c : LCode) {fr σ} {K K' : KC}, (∀ e fr σ, K e fr σ → K' e fr σ) → execL C P rd c fr σ K → execL C P rd c fr σ K'
  | .skip, fr, σ, K, K', hK, h => hK _ _ _ h
  | .sq l, fr, σ, K, K', hK, h => seqL_mono (hC := hC) l (fun _ _ k => hK _ _ _ k) h
  | .tree t, fr, σ, K, K', hK, h => planL_mono hC t (fun _ _ k => hK _ _ _ k) h
  | .seq a b, fr, σ, K, K', hK, h => by
    simp only [execL] at h ⊢
    exact execL_mono hC a (roundK_mono (fun fr s h => execL_mono hC b hK h) hK) h
  | .cond c a b, fr, σ, K, K', hK, h => by
    simp only [execL] at h ⊢
    split at h
    · exact ⟨fun hx => execL_mono hC a hK (h.1 hx), fun hx => execL_mono hC b hK (h.2 hx)⟩
    · exact h
  | .block id b, fr, σ, K, K', hK, h => by
    simp only [execL] at h ⊢
    exact execL_mono hC b (blockK_mono hK) h
  | .loop m b, fr, σ, K, K', hK, h => by
    simp only [execL] at h ⊢
    intro I hI
    exact h I fun fr s hu hb => hI fr s hu (execL_mono hC b (roundK_mono (fun _ _ h => h) hK) hb)
  | .exit id, fr, σ, K, K', hK, h => hK _ _ _ h
  | .ret, fr, σ, K, K', hK, h => hK _ _ _ h
  | .rfun g f ps a b, fr, σ, K, K', hK, h => by
    simp only [execL] at h ⊢
    refine ⟨h.1, ?_⟩
    have h2 := h.2
    split at h2
    · refine ⟨h2.1, hC _ _ _ _ _ (fun v s hk => ?_) h2.2⟩
      split at hk
      · exact ⟨hk.1, hK _ _ _ hk.2⟩
      · exact hk
    · exact h2
  | .bad, fr, σ, K, K', hK, h => h

/-- One round of a loop. -/
theorem loop_step (hC : LeC C C) {m : List Bool} {b : LCode} {n0 : Nat} {is : List Item} {fr fr0 : Fr} {S : List (List AV)} {H : List HObj} {K : KC} (hk : keep m fr = fr0) (hu : underL n0 fr0 = true)
    (h : runC C P rd b (.lp m b n0 :: is) fr0 ⟨S.take n0, H⟩ K) : runLp C P rd m b n0 is fr ⟨S, H⟩ K := by
  subst hk
  exact loopW_fold (fun fr σ K K' hK h => execL_mono hC b hK h) hu h
end
end Go.AM
/-! Words for lowered code at symbolic values. -/
namespace Go.AM
open Go
set_option linter.unusedVariables false
set_option linter.unusedSimpArgs false

/-- A key's sixteen bytes. -/
structure Key where
  b : List UInt8
  h : b.length = 16

theorem Key.ext' {x y : Key} (h : x.b = y.b) : x = y := by cases x; cases y; cases h; rfl

instance : DecidableEq Key := fun x y => if h : x.b = y.b then isTrue (Key.ext' h) else isFalse fun e => h (by rw [e])

def u8 (b : UInt8) : AV := .s (.int .u8 b.toNat)
def bs (l : List UInt8) : List AV := l.map u8
abbrev Key.c (k : Key) : List AV := bs k.b

theorem bs_length (l : List UInt8) : (bs l).length = l.length := by simp [bs]
theorem kc_length (k : Key) : (bs k.b).length = 16 := by simp [bs, k.h]

theorem under_u8 (n : Nat) (b : UInt8) : AV.under n (u8 b) = true := rfl
theorem under_bs (n : Nat) : ∀ (l : List UInt8), AV.under.go n (bs l) = true
  | [] => rfl
  | b :: l => by simp only [bs, List.map_cons, AV.under.go, under_u8, Bool.true_and]; exact under_bs n l

theorem newBox_stk {cs : List AV} {S : List (List AV)} {H : List HObj} (h : underL S.length cs = true) : newBox false cs ⟨S, H⟩ = some (.stk S.length, ⟨S ++ [cs], H⟩) := by
  unfold newBox; simp [h]
theorem newBox_heap {cs : List AV} {S : List (List AV)} {H : List HObj} (h : underL 0 cs = true) : newBox true cs ⟨S, H⟩ = some (.heap H.length, ⟨S, H ++ [.cells cs]⟩) := by
  unfold newBox; simp [h]

/-! Boxes of the call's own -/
theorem app_get0 {α : Type} (S l : List α) : (S ++ l)[S.length]? = l[0]? := by rw [List.getElem?_append_right (Nat.le_refl _), Nat.sub_self]
theorem app_get {α : Type} (S l : List α) (k : Nat) : (S ++ l)[S.length + k]? = l[k]? := by rw [List.getElem?_append_right (Nat.le_add_right _ _), Nat.add_sub_cancel_left]
theorem app_set0 {α : Type} (S l : List α) (x : α) : (S ++ l).set S.length x = S ++ l.set 0 x := by rw [List.set_append_right _ _ (Nat.le_refl _), Nat.sub_self]
theorem app_set {α : Type} (S l : List α) (k : Nat) (x : α) : (S ++ l).set (S.length + k) x = S ++ l.set k x := by rw [List.set_append_right _ _ (Nat.le_add_right _ _), Nat.add_sub_cancel_left]
theorem app_take {α : Type} (S l : List α) : (S ++ l).take S.length = S := by simp
theorem app_take_add {α : Type} (S l : List α) (k : Nat) : (S ++ l).take (S.length + k) = S ++ l.take k := by
  induction S with
  | nil => simp
  | cons x S ih => rw [List.length_cons, Nat.add_right_comm, List.cons_append, List.take_succ_cons, ih]; rfl
theorem app_one {α : Type} (S : List α) (a b : List α) : S ++ a ++ b = S ++ (a ++ b) := List.append_assoc _ _ _

theorem setBox_stk (S : List (List AV)) (H : List HObj) (n : Nat) (cs : List AV) : setBox ⟨S, H⟩ (.stk n) cs = ⟨S.set n cs, H⟩ := rfl
theorem setBox_heap (S : List (List AV)) (H : List HObj) (n : Nat) (cs : List AV) : setBox ⟨S, H⟩ (.heap n) cs = ⟨S, H.set n (.cells cs)⟩ := rfl
def cellsOf? : Option HObj → Option (List AV)
  | some (.cells cs) => some cs
  | _ => none
theorem boxOf_heap (S : List (List AV)) (H : List HObj) (n : Nat) : boxOf ⟨S, H⟩ (.heap n) = cellsOf? H[n]? := by
  show (match H[n]? with | some (.cells cs) => some cs | _ => none) = cellsOf? H[n]?
  cases H[n]? with
  | none => rfl
  | some o => cases o <;> rfl
theorem boxOf_stk (S : List (List AV)) (H : List HObj) (n : Nat) : boxOf ⟨S, H⟩ (.stk n) = S[n]? := rfl

theorem wrap_i64 {x : Int} (h1 : -9223372036854775808 ≤ x) (h2 : x ≤ 9223372036854775807) : IntKind.i64.wrap x = x := by
  unfold IntKind.wrap
  simp [IntKind.signed, IntKind.bits]
  omega

theorem look_u8 (b : UInt8) : (u8 b).look = u8 b := rfl
theorem map_look_bs (l : List UInt8) : (bs l).map AV.look = bs l := by simp [bs, look_u8]
theorem gd_t (b : Bool) : (b == true) = b := by cases b <;> rfl
theorem gd_f (b : Bool) : (b == false) = !b := by cases b <;> rfl
theorem cast_lit {n : Nat} : ((no_index (OfNat.ofNat n) : Nat) : Int) = OfNat.ofNat n := rfl

/-- The rule for loops: what is so at each round's head is told of a datum. -/
theorem loop_rule {C : CallW} {P : Program} {rd : Bool} (hC : LeC C C) {m : List Bool} {b : LCode} {n0 : Nat} {is : List Item} {fr : Fr} {S : List (List AV)} {H : List HObj} {K : KC} {α : Type} (μ : α → Nat) (F : α → Fr) (S0 : α → List (List AV)) (H0 : α → List HObj) (I : α → Prop) (a0 : α)
    (h0 : I a0) (hk : keep m fr = F a0) (hS : S.take n0 = S0 a0) (hH : H = H0 a0) (hu : ∀ a, I a → underL n0 (F a) = true)
    (step : ∀ a, I a → (∀ a' fr' S' H', μ a' < μ a → I a' → keep m fr' = F a' → S'.take n0 = S0 a' → H' = H0 a' → runLp C P rd m b n0 is fr' ⟨S', H'⟩ K) → runC C P rd b (.lp m b n0 :: is) (F a) ⟨S0 a, H0 a⟩ K) :
    runLp C P rd m b n0 is fr ⟨S, H⟩ K := by
  have main : ∀ (n : Nat) (a : α) (fr : Fr) (S : List (List AV)) (H : List HObj), μ a < n → I a → keep m fr = F a → S.take n0 = S0 a → H = H0 a → runLp C P rd m b n0 is fr ⟨S, H⟩ K := by
    intro n
    induction n with
    | zero => intro a fr S H h; omega
    | succ n ih =>
      intro a fr S H h hI hk hS hH
      subst hH
      refine loop_step hC hk (hu a hI) ?_
      rw [hS]
      exact step a hI fun a' fr' S' H' hlt hI' => ih a' fr' S' H' (by omega) hI'
  exact main (μ a0 + 1) a0 fr S H (Nat.lt_succ_self _) h0 hk hS hH
end Go.AM
/-! What operations yield at keys, writes, lists of such. -/
namespace Go.AM
open Go
set_option linter.unusedVariables false
set_option linter.unusedSimpArgs false

def key0 : Key := ⟨List.replicate 16 0, rfl⟩
def zk : List AV := [.s (.int .u8 0), .s (.int .u8 0), .s (.int .u8 0), .s (.int .u8 0), .s (.int .u8 0), .s (.int .u8 0), .s (.int .u8 0), .s (.int .u8 0), .s (.int .u8 0), .s (.int .u8 0), .s (.int .u8 0), .s (.int .u8 0), .s (.int .u8 0), .s (.int .u8 0), .s (.int .u8 0), .s (.int .u8 0)]
def lk : List LK := [.int .u8, .int .u8, .int .u8, .int .u8, .int .u8, .int .u8, .int .u8, .int .u8, .int .u8, .int .u8, .int .u8, .int .u8, .int .u8, .int .u8, .int .u8, .int .u8]
theorem zk_eq : zk = bs key0.b := rfl

/-! lists of cells -/
theorem take_kc (k : Key) (r : List AV) : (bs k.b ++ r).take 16 = bs k.b := List.take_left' (kc_length k)
theorem drop_kc (k : Key) (r : List AV) : (bs k.b ++ r).drop 16 = r := List.drop_left' (kc_length k)
theorem take_kc0 (k : Key) : (bs k.b).take 16 = bs k.b := List.take_of_length_le (Nat.le_of_eq (kc_length k))
theorem drop_zero' {α : Type} (l : List α) : l.drop 0 = l := rfl
theorem get_kc16 (k : Key) (r : List AV) : (bs k.b ++ r)[16]? = r[0]? := by rw [List.getElem?_append_right (Nat.le_of_eq (kc_length k)), kc_length]
theorem get_kc17 (k : Key) (r : List AV) : (bs k.b ++ r)[17]? = r[1]? := by rw [List.getElem?_append_right (by rw [kc_length]; omega), kc_length]
theorem take_all {α : Type} {l : List α} {n : Nat} (h : l.length ≤ n) : l.take n = l := List.take_of_length_le h
theorem look_app (a b : List AV) : (a ++ b).map AV.look = a.map AV.look ++ b.map AV.look := List.map_append

theorem under_app' {n : Nat} (l l' : List AV) : AV.under.go n (l ++ l') = (AV.under.go n l && AV.under.go n l') := under_app

/-! reading -/
theorem readA_rop {σ : St} {cs : List AV} {n : Nat} (h : n ≤ cs.length) : readA σ (.rop cs) n = some (.agg (cs.take n)) := by simp [readA, readCells, h]
theorem readA_stk {S : List (List AV)} {l : List (List AV)} {H : List HObj} {j n off : Nat} (hj : j < l.length) (h : off + n ≤ (l.getD j []).length) : readA ⟨S ++ l, H⟩ (.ptr (.stk (S.length + j)) off) n = some (.agg ((((l.getD j []).drop off).take n).map AV.look)) := by
  have e : l[j]? = some (l.getD j []) := by simp [List.getD, hj]
  simp only [readA, readCells, boxOf_stk, app_get, e, Option.bind_some, if_pos h, Option.map_some]
theorem readA_stk0 {S : List (List AV)} {l : List (List AV)} {H : List HObj} {n off : Nat} (hj : 0 < l.length) (h : off + n ≤ (l.getD 0 []).length) : readA ⟨S ++ l, H⟩ (.ptr (.stk S.length) off) n = some (.agg ((((l.getD 0 []).drop off).take n).map AV.look)) := readA_stk (j := 0) hj h
/-! writing whole boxes -/
theorem storeL_stk {S : List (List AV)} {l : List (List AV)} {H : List HObj} {j n : Nat} {vs : List AV} (hj : j < l.length) (h : (l.getD j []).length = n) (hv : vs.length = n) (hn : 2 ≤ n) (hu : AV.under.go (S.length + j) vs = true) : storeL n (.ptr (.stk (S.length + j)) 0) (.agg vs) ⟨S ++ l, H⟩ = some ⟨S ++ l.set j vs, H⟩ := by
  have e : l[j]? = some (l.getD j []) := by simp [List.getD, hj]
  have hs : splice (l.getD j []) 0 vs = vs := by
    unfold splice
    split
    · simp at hv; omega
    · rw [List.take_zero, List.nil_append, Nat.zero_add, hv, List.drop_of_length_le (Nat.le_of_eq h), List.append_nil]
  simp only [storeL, AV.cells, AV.fit, hv, writeCells, boxOf_stk, app_get, e, Option.bind_some, hs, setBox_stk, app_set, mayHold, hu, h, Nat.zero_add, Nat.le_refl, decide_true, Bool.and_self, if_true, true_and]
  rw [if_pos (by simp; omega)]
theorem storeL_stk0 {S : List (List AV)} {l : List (List AV)} {H : List HObj} {n : Nat} {vs : List AV} (hj : 0 < l.length) (h : (l.getD 0 []).length = n) (hv : vs.length = n) (hn : 2 ≤ n) (hu : AV.under.go S.length vs = true) : storeL n (.ptr (.stk S.length) 0) (.agg vs) ⟨S ++ l, H⟩ = some ⟨S ++ l.set 0 vs, H⟩ := storeL_stk (j := 0) hj h hv hn hu

theorem storeL1_stk {S : List (List AV)} {l : List (List AV)} {H : List HObj} {j off : Nat} {v : AV} (hj : j < l.length) (h : off < (l.getD j []).length) (hc : v.cells = [v]) (hf : v.fit = true) (hu : AV.under (S.length + j) v = true) : storeL 1 (.ptr (.stk (S.length + j)) off) v ⟨S ++ l, H⟩ = some ⟨S ++ l.set j ((l.getD j []).set off v), H⟩ := by
  have e : l[j]? = some (l.getD j []) := by simp [List.getD, hj]
  have h1 : off + 1 ≤ (l.getD j []).length := h
  simp only [storeL, hc, hf, List.length_cons, List.length_nil, writeCells, boxOf_stk, app_get, e, Option.bind_some, splice, setBox_stk, app_set, mayHold, AV.under.go, hu, Nat.zero_add, h1, decide_true, Bool.and_self, if_true, true_and, and_self]
  rw [if_pos (by simp)]
theorem storeL1_stk0 {S : List (List AV)} {l : List (List AV)} {H : List HObj} {off : Nat} {v : AV} (hj : 0 < l.length) (h : off < (l.getD 0 []).length) (hc : v.cells = [v]) (hf : v.fit = true) (hu : AV.under S.length v = true) : storeL 1 (.ptr (.stk S.length) off) v ⟨S ++ l, H⟩ = some ⟨S ++ l.set 0 ((l.getD 0 []).set off v), H⟩ := storeL1_stk (j := 0) hj h hc hf hu
theorem storeS_stk {S : List (List AV)} {l : List (List AV)} {H : List HObj} {j off : Nat} {x : Sc} (hj : j < l.length) (h : off < (l.getD j []).length) : storeL 1 (.ptr (.stk (S.length + j)) off) (.s x) ⟨S ++ l, H⟩ = some ⟨S ++ l.set j ((l.getD j []).set off (.s x)), H⟩ := storeL1_stk hj h rfl rfl rfl
theorem storeS_stk0 {S : List (List AV)} {l : List (List AV)} {H : List HObj} {off : Nat} {x : Sc} (hj : 0 < l.length) (h : off < (l.getD 0 []).length) : storeL 1 (.ptr (.stk S.length) off) (.s x) ⟨S ++ l, H⟩ = some ⟨S ++ l.set 0 ((l.getD 0 []).set off (.s x)), H⟩ := storeL1_stk0 hj h rfl rfl rfl
theorem storeQ_stk {S : List (List AV)} {l : List (List AV)} {H : List HObj} {j off sz : Nat} {fl : Fl} {es : List AV} (hj : j < l.length) (h : off < (l.getD j []).length) : storeL 1 (.ptr (.stk (S.length + j)) off) (.list fl sz es) ⟨S ++ l, H⟩ = some ⟨S ++ l.set j ((l.getD j []).set off (.list fl sz es)), H⟩ := storeL1_stk hj h rfl rfl rfl
theorem storeQ_stk0 {S : List (List AV)} {l : List (List AV)} {H : List HObj} {off sz : Nat} {fl : Fl} {es : List AV} (hj : 0 < l.length) (h : off < (l.getD 0 []).length) : storeL 1 (.ptr (.stk S.length) off) (.list fl sz es) ⟨S ++ l, H⟩ = some ⟨S ++ l.set 0 ((l.getD 0 []).set off (.list fl sz es)), H⟩ := storeL1_stk0 hj h rfl rfl rfl
theorem cellsOf_some {cs : List AV} : cellsOf? (some (.cells cs)) = some cs := rfl
theorem under_s {n : Nat} {x : Sc} : AV.under n (.s x) = true := rfl
theorem cells_s {x : Sc} : (AV.s x).cells = [.s x] := rfl
theorem fit_s {x : Sc} : (AV.s x).fit = true := rfl
theorem under_list {n sz : Nat} {fl : Fl} {es : List AV} : AV.under n (.list fl sz es) = true := rfl
theorem cells_list {sz : Nat} {fl : Fl} {es : List AV} : (AV.list fl sz es).cells = [.list fl sz es] := rfl
theorem fit_list {sz : Nat} {fl : Fl} {es : List AV} : (AV.list fl sz es).fit = true := rfl
theorem cells_u8 {x : UInt8} : (u8 x).cells = [u8 x] := rfl
theorem fit_u8 {x : UInt8} : (u8 x).fit = true := rfl

/-- A key as a value. -/
def kA (k : Key) : AV := .agg (bs k.b)
theorem kA_cells {k : Key} : (kA k).cells = bs k.b := rfl
theorem kA_under {n : Nat} {k : Key} : AV.under n (kA k) = true := by simp [kA, AV.under, under_bs]
theorem kA_low {n : Nat} : ∀ {l : List Key}, AV.under.go n (l.map kA) = true
  | [] => rfl
  | k :: l => by simp only [List.map_cons, AV.under.go, kA_under, kA_low (l := l), Bool.and_self]
theorem kA_calm {k : Key} : (kA k).calm = kA k := rfl

/-- Any list that nobody writes into. -/
theorem elems_list {e : ET} {fl : Fl} {es : List AV} {σ : St} : elemsL e (.list fl e.c es) σ = some es := by simp [elemsL]

/-! lists -/
theorem ixl_map {α : Type} {f : α → AV} {l : List α} {i c : Nat} {k : IntKind} (h : i < l.length) (hc : c ≠ 0) : indexAddrL (.sl c) (.list .sh c (l.map f)) (.s (.int k (i : Int))) = some (.rop (f l[i]).cells) := by
  have h1 : (0 : Int) ≤ i := by omega
  have h2 : (i : Int) < (l.map f).length := by simp; omega
  simp only [indexAddrL, h1, h2, hc, ne_eq, not_false_eq_true, reduceCtorEq, and_self, if_true, Int.toNat_natCast]
  simp [List.getD, h]
theorem ixl_k {l : List Key} {i c : Nat} {k : IntKind} (h : i < l.length) (hc : c ≠ 0) : indexAddrL (.sl c) (.list .sh c (l.map kA)) (.s (.int k (i : Int))) = some (.rop (bs (l[i]).b)) := ixl_map h hc
theorem lenL_list {σ : St} {fl : Fl} {c : Nat} {es : List AV} : lenL .sl (.list fl c es) σ = some es.length := rfl
theorem lenL_str {σ : St} {l : List UInt8} : lenL .str (.s (.str l)) σ = some l.length := rfl

/-! comparing -/
theorem u8_inj {a b : UInt8} : AV.beq (u8 a) (u8 b) = decide (a = b) := by
  simp only [u8, AV.beq]
  by_cases h : a = b
  · simp [h]
  · have : ¬ ((a.toNat : Int) = b.toNat) := fun e => h (UInt8.toNat_inj.1 (by omega))
    simp [h, this]
theorem beq_bs : ∀ (a b : List UInt8), AV.beq.go (bs a) (bs b) = decide (a = b)
  | [], [] => rfl
  | [], _ :: _ => rfl
  | _ :: _, [] => rfl
  | x :: a, y :: b => by
    show (AV.beq (u8 x) (u8 y) && AV.beq.go (bs a) (bs b)) = _
    rw [u8_inj, beq_bs a b]
    by_cases h1 : x = y <;> by_cases h2 : a = b <;> simp [h1, h2]
theorem beq_app : ∀ (a b c d : List AV), a.length = b.length → AV.beq.go (a ++ c) (b ++ d) = (AV.beq.go a b && AV.beq.go c d)
  | [], [], c, d, _ => by simp [AV.beq.go]
  | [], _ :: _, _, _, h => by simp at h
  | _ :: _, [], _, _, h => by simp at h
  | x :: a, y :: b, c, d, h => by simp only [List.cons_append, AV.beq.go, beq_app a b c d (by simpa using h), Bool.and_assoc]
theorem beq_app_k (a b : Key) (c d : List AV) : AV.beq.go (bs a.b ++ c) (bs b.b ++ d) = (AV.beq.go (bs a.b) (bs b.b) && AV.beq.go c d) := beq_app _ _ _ _ (by rw [kc_length, kc_length])
theorem beq_kk (a b : Key) : AV.beq.go (bs a.b) (bs b.b) = decide (a = b) := by
  rw [beq_bs]
  by_cases h : a = b
  · simp [h]
  · have : ¬ a.b = b.b := fun e => h (Key.ext' e)
    simp [h, this]
theorem fits_bs : ∀ (l : List UInt8), fitsL (List.replicate l.length (.int .u8)) (bs l) = true
  | [] => rfl
  | x :: l => by
    show (_ && fitsL (List.replicate l.length (.int .u8)) (bs l)) = true
    rw [fits_bs l]; rfl
theorem fits_app : ∀ (a : List LK) (b : List LK) (c d : List AV), a.length = c.length → fitsL (a ++ b) (c ++ d) = (fitsL a c && fitsL b d)
  | [], _, [], _, _ => by simp [fitsL]
  | [], _, _ :: _, _, h => by simp at h
  | _ :: _, _, [], _, h => by simp at h
  | k :: a, b, x :: c, d, h => by simp only [List.cons_append, fitsL, fits_app a b c d (by simpa using h), Bool.and_assoc]
theorem fits_k (k : Key) : fitsL lk (bs k.b) = true := by
  have := fits_bs k.b
  rw [k.h] at this
  exact this
theorem fits_kr (k : Key) (ls : List LK) (r : List AV) : fitsL (lk ++ ls) (bs k.b ++ r) = fitsL ls r := by
  rw [fits_app _ _ _ _ (by rw [kc_length]; rfl), fits_k, Bool.true_and]

theorem slice_box {n c : Nat} {r : Ref} (h : 0 < n) (hc : c ≠ 0) : sliceL (.arr n c) (.ptr r 0) none none none = some (.row r 0 n n) := by
  simp [sliceL, bound, hc, h]
theorem fillL_nil {cs : List AV} : fillL cs [] = some cs := rfl
theorem len_map' {α β : Type} (f : α → β) (l : List α) : (l.map f).length = l.length := List.length_map _
end Go.AM
/-! Writes. -/
namespace Go.AM
open Go
set_option linter.unusedVariables false
set_option linter.unusedSimpArgs false

structure Wr where
  key : Key
  val : List UInt8
  gone : Bool
  deriving DecidableEq

def wc (w : Wr) : List AV := bs w.key.b ++ [.s (.str w.val), .s (.bool w.gone)]
def wA (w : Wr) : AV := .agg (wc w)
theorem wc_length (w : Wr) : (wc w).length = 18 := by simp [wc, kc_length]
theorem wc_under {n : Nat} {w : Wr} : AV.under.go n (wc w) = true := by simp [wc, under_app', under_bs, AV.under, AV.under.go]
theorem wA_under {n : Nat} {w : Wr} : AV.under n (wA w) = true := wc_under
theorem wA_low {n : Nat} : ∀ {l : List Wr}, AV.under.go n (l.map wA) = true
  | [] => rfl
  | k :: l => by simp only [List.map_cons, AV.under.go, wA_under, wA_low (l := l), Bool.and_self]
theorem look_wc (w : Wr) : (wc w).map AV.look = wc w := by
  rw [wc, look_app, map_look_bs]; rfl
theorem beq_wc (a b : Wr) : AV.beq.go (wc a) (wc b) = decide (a = b) := by
  rw [wc, wc, beq_app_k, beq_kk]
  cases a; cases b
  simp [AV.beq.go, AV.beq, Wr.mk.injEq, Bool.decide_and, Bool.and_assoc]
theorem fits_wc (w : Wr) : fitsL (lk ++ [.str, .bool]) (wc w) = true := by rw [wc, fits_kr]; rfl
theorem ixl_w {l : List Wr} {i c : Nat} {k : IntKind} (h : i < l.length) (hc : c ≠ 0) : indexAddrL (.sl c) (.list .sh c (l.map wA)) (.s (.int k (i : Int))) = some (.rop (wc l[i])) := ixl_map h hc
theorem take_wc (w : Wr) : (wc w).take 18 = wc w := List.take_of_length_le (Nat.le_of_eq (wc_length w))
theorem take_wk (w : Wr) : (wc w).take 16 = bs w.key.b := take_kc _ _
theorem drop_wc (w : Wr) : (wc w).drop 16 = [.s (.str w.val), .s (.bool w.gone)] := drop_kc _ _
def lstW (l : List Wr) : AV := .list .sh 18 (l.map wA)
theorem shift_rop {cs : List AV} {o : Nat} : shift (.rop cs) o = some (.rop (cs.drop o)) := rfl
theorem load1_rop {σ : St} {v : AV} {cs : List AV} : load1L false (.rop (v :: cs)) σ = some (v, σ) := rfl

theorem WkF.full {sz : Nat} {es as bs : List AV} (h : WkF as bs) : WkF (.list .full sz es :: as) (.list .sh sz es :: bs) := .wk (show WkL [.list .full sz es] _ from .full .nil) h
theorem WkF.own {sz : Nat} {es as bs : List AV} (h : WkF as bs) : WkF (.list .own sz es :: as) (.list .sh sz es :: bs) := .wk (show WkL [.list .sh sz es] _ from .same .nil) h
theorem WkF.uniq {sz : Nat} {es as bs : List AV} (h : WkF as bs) : WkF (.list .uniq sz es :: as) (.list .sh sz es :: bs) := .wk (show WkL [.list .sh sz es] _ from .same .nil) h
theorem WkF.nilS {sz : Nat} {as bs : List AV} (hs : 0 < sz) (h : WkF as bs) : WkF (.s .nilS :: as) (.list .sh sz [] :: bs) := .wk (show WkL [.s .nilS] _ from .nilS hs .nil) h

def WkC (C : CallW) : Prop := ∀ t as bs σ K, WkF as bs → C t bs σ K → C t as σ K
end Go.AM
/-! Reads that are checked again behind a move. -/
namespace Go.AM
open Go
set_option linter.unusedVariables false

def okC (s : LStep) (fr : Fr) (v : AV) (σ : St) : Option Bool → Prop
  | some true => sameV (readL s fr σ) v = true
  | some false => AV.beq (.tup []) v = true
  | none => False
def okAll (drop : List Nat) (σ : St) : List LChk → Prop
  | [] => True
  | c :: cs => (drop.contains c.i = false → okC c.s c.fr c.v σ (guardL c.fr c.s.guard)) ∧ okAll drop σ cs
def leftC (drop : List Nat) : List LChk → List LChk
  | [] => []
  | c :: cs => if drop.contains c.i = true then leftC drop cs else c :: leftC drop cs
theorem okAll_nil {drop σ} : okAll drop σ [] = True := rfl
theorem okAll_cons {drop σ i s fr v cs} : okAll drop σ (⟨i, s, fr, v⟩ :: cs) = ((drop.contains i = false → okC s fr v σ (guardL fr s.guard)) ∧ okAll drop σ cs) := (rfl)
theorem leftC_nil {drop} : leftC drop [] = [] := rfl
theorem leftC_cons {drop i s fr v cs} : leftC drop (⟨i, s, fr, v⟩ :: cs) = if drop.contains i = true then leftC drop cs else ⟨i, s, fr, v⟩ :: leftC drop cs := (rfl)
theorem okC_true {s fr v σ} : okC s fr v σ (some true) = (sameV (readL s fr σ) v = true) := (rfl)
theorem okC_false {s fr v σ} : okC s fr v σ (some false) = (AV.beq (.tup []) v = true) := (rfl)
theorem sameV_some {u v} : sameV (some u) v = u.beq v := (rfl)
theorem leftC_eq {drop : List Nat} : ∀ (l : List LChk), (l.filter fun c => !drop.contains c.i) = leftC drop l
  | [] => rfl
  | c :: cs => by
    rw [List.filter_cons, leftC, leftC_eq cs]
    cases drop.contains c.i <;> rfl
theorem okAll_eq {drop : List Nat} {σ : St} : ∀ {l : List LChk}, okAll drop σ l → (l.filter fun c => !drop.contains c.i).all (fun c => c.ok σ) = true
  | [], _ => rfl
  | c :: cs, h => by
    rw [List.filter_cons]
    have h2 := okAll_eq h.2
    cases hd : drop.contains c.i with
    | true => simpa [hd] using h2
    | false =>
      have h1 := h.1 hd
      have hc : c.ok σ = true := by
        unfold LChk.ok
        cases hg : guardL c.fr c.s.guard with
        | none => rw [hg] at h1; exact h1.elim
        | some b => rw [hg] at h1; cases b <;> exact h1
      simp only [Bool.not_false, if_true, List.all_cons, hc, h2, Bool.and_self]
theorem mvK_chk {C : CallW} {P : Program} {rd : Bool} {drop chk rest is K fr σ} (h : okAll drop σ chk ∧ runT C P rd rest (leftC drop chk) is fr σ K) : mvK C P rd drop chk rest is K fr σ := by
  refine ⟨okAll_eq h.1, ?_⟩
  rw [leftC_eq]; exact h.2
theorem okAll_iff {drop : List Nat} {σ : St} : ∀ {l : List LChk}, (l.filter fun c => !drop.contains c.i).all (fun c => c.ok σ) = true → okAll drop σ l
  | [], _ => trivial
  | c :: cs, h => by
    rw [List.filter_cons] at h
    cases hd : drop.contains c.i with
    | true =>
      rw [hd] at h
      refine ⟨fun e => ?_, okAll_iff (by simpa using h)⟩
      rw [hd] at e; cases e
    | false =>
      rw [hd] at h
      simp only [Bool.not_false, if_true, List.all_cons, Bool.and_eq_true] at h
      refine ⟨fun _ => ?_, okAll_iff h.2⟩
      have h1 := h.1
      unfold LChk.ok at h1
      cases hg : guardL c.fr c.s.guard with
      | none => rw [hg] at h1; cases h1
      | some b => rw [hg] at h1; cases b <;> exact h1
theorem mvK_cons {C : CallW} {P : Program} {rd : Bool} {drop c chk rest is K fr σ} : mvK C P rd drop (c :: chk) rest is K fr σ = (okAll drop σ (c :: chk) ∧ runT C P rd rest (leftC drop (c :: chk)) is fr σ K) :=
  propext ⟨fun h => ⟨okAll_iff h.1, by have := h.2; rwa [leftC_eq] at this⟩, mvK_chk⟩
end Go.AM
/-! The equations of a run, bundled. -/
namespace Go.AM
open Go
set_option linter.unusedVariables false
theorem RUN_ :
  (((((((type_of% @Go.AM.runC_skip ∧ (type_of% @Go.AM.runC_sq ∧ type_of% @Go.AM.runC_tree)) ∧ ((type_of% @Go.AM.runC_seq ∧ type_of% @Go.AM.runC_cond) ∧ (type_of% @Go.AM.runC_block ∧ type_of% @Go.AM.runC_exit))) ∧ (((type_of% @Go.AM.runC_ret ∧ type_of% @Go.AM.runC_loop) ∧ (type_of% @Go.AM.cnd_true ∧ type_of% @Go.AM.cnd_false)) ∧ ((type_of% @Go.AM.nxt_nil ∧ type_of% @Go.AM.nxt_c) ∧ (type_of% @Go.AM.nxt_blk ∧ type_of% @Go.AM.nxt_lp)))) ∧ ((((type_of% @Go.AM.ext_nil ∧ type_of% @Go.AM.ext_c) ∧ (type_of% @Go.AM.ext_blk ∧ type_of% @Go.AM.ext_lp)) ∧ ((type_of% @Go.AM.rtn_nil ∧ type_of% @Go.AM.rtn_c) ∧ (type_of% @Go.AM.rtn_blk ∧ type_of% @Go.AM.rtn_lp))) ∧ (((type_of% @Go.AM.runS_nil ∧ type_of% @Go.AM.runS_op) ∧ (type_of% @Go.AM.runS_grd ∧ type_of% @Go.AM.grd_true)) ∧ ((type_of% @Go.AM.grd_false ∧ type_of% @Go.AM.thn_some) ∧ (type_of% @Go.AM.opS_call ∧ type_of% @Go.AM.call_fn))))) ∧ ((((type_of% @Go.AM.call_yield ∧ (type_of% @Go.AM.bak_eq ∧ type_of% @Go.AM.mb_t)) ∧ ((type_of% @Go.AM.mb_f ∧ type_of% @Go.AM.mayb_sc) ∧ (type_of% @Go.AM.mayb_bl ∧ type_of% @Go.AM.mayb_leaf))) ∧ (((type_of% @Go.AM.mayb_r0 ∧ type_of% @Go.AM.mayb_r1) ∧ (type_of% @Go.AM.mayb_r2 ∧ type_of% @Go.AM.mayb_r3)) ∧ ((type_of% @Go.AM.isEq.eq_1 ∧ type_of% @Go.AM.isEq.eq_2) ∧ (type_of% @Go.AM.isEq.eq_3 ∧ type_of% @Go.AM.maybeNil.eq_1)))) ∧ ((((type_of% @Go.AM.maybeNil.eq_2 ∧ type_of% @Go.AM.maybeNil.eq_3) ∧ (type_of% @Go.AM.runT_done ∧ type_of% @Go.AM.runT_stop)) ∧ ((type_of% @Go.AM.runT_rd ∧ type_of% @Go.AM.rdG_true) ∧ (type_of% @Go.AM.rdG_false ∧ type_of% @Go.AM.rdV_some))) ∧ (((type_of% @Go.AM.runT_mv ∧ type_of% @Go.AM.mvG_true) ∧ (type_of% @Go.AM.mvG_false ∧ type_of% @Go.AM.t_mv)) ∧ ((type_of% @Go.AM.t_pick ∧ type_of% @Go.AM.t_alloc) ∧ (type_of% @Go.AM.t_box ∧ type_of% @Go.AM.t_build)))))) ∧ (((((type_of% @Go.AM.t_bsl ∧ (type_of% @Go.AM.t_loadA ∧ type_of% @Go.AM.t_load1)) ∧ ((type_of% @Go.AM.t_store ∧ type_of% @Go.AM.t_nilc) ∧ (type_of% @Go.AM.t_bin ∧ type_of% @Go.AM.t_un))) ∧ (((type_of% @Go.AM.t_conv ∧ type_of% @Go.AM.t_mkfn) ∧ (type_of% @Go.AM.t_mkmap ∧ type_of% @Go.AM.t_mksl)) ∧ ((type_of% @Go.AM.t_slc ∧ type_of% @Go.AM.t_shift) ∧ (type_of% @Go.AM.t_part ∧ type_of% @Go.AM.t_ixa)))) ∧ ((((type_of% @Go.AM.t_ixs ∧ type_of% @Go.AM.t_ixv) ∧ (type_of% @Go.AM.t_look ∧ type_of% @Go.AM.t_upd)) ∧ ((type_of% @Go.AM.t_ext ∧ type_of% @Go.AM.t_len) ∧ (type_of% @Go.AM.t_cap ∧ type_of% @Go.AM.t_app))) ∧ (((type_of% @Go.AM.t_cpy ∧ type_of% @Go.AM.t_del) ∧ (type_of% @Go.AM.t_clr ∧ type_of% @Go.AM.t_mn)) ∧ ((type_of% @Go.AM.t_mx ∧ type_of% @Go.AM.t_thaw) ∧ (type_of% @Go.AM.t_frz ∧ type_of% @Go.AM.thnT_some))))) ∧ (((((type_of% @Go.AM.opT_call ∧ type_of% @Go.AM.callT_fn) ∧ (type_of% @Go.AM.callT_yield ∧ type_of% @Go.AM.bakT_eq)) ∧ ((type_of% @Go.AM.mvK_nil ∧ type_of% @Go.AM.readL.eq_1) ∧ (type_of% @Go.AM.LOp.opds.eq_1 ∧ type_of% @Go.AM.LOp.opds.eq_2))) ∧ (((type_of% @Go.AM.LOp.opds.eq_3 ∧ type_of% @Go.AM.LOp.opds.eq_4) ∧ (type_of% @Go.AM.LOp.opds.eq_5 ∧ type_of% @Go.AM.LOp.opds.eq_6)) ∧ ((type_of% @Go.AM.LOp.opds.eq_7 ∧ type_of% @Go.AM.LOp.opds.eq_8) ∧ (type_of% @Go.AM.LOp.opds.eq_9 ∧ type_of% @Go.AM.LOp.opds.eq_10)))) ∧ ((((type_of% @Go.AM.LOp.opds.eq_11 ∧ type_of% @Go.AM.LOp.opds.eq_12) ∧ (type_of% @Go.AM.LOp.opds.eq_13 ∧ type_of% @Go.AM.LOp.opds.eq_14)) ∧ ((type_of% @Go.AM.LOp.opds.eq_15 ∧ type_of% @Go.AM.LOp.opds.eq_16) ∧ (type_of% @Go.AM.LOp.opds.eq_17 ∧ type_of% @Go.AM.LOp.opds.eq_18))) ∧ (((type_of% @Go.AM.LOp.opds.eq_19 ∧ type_of% @Go.AM.LOp.opds.eq_20) ∧ (type_of% @Go.AM.LOp.opds.eq_21 ∧ type_of% @Go.AM.LOp.opds.eq_22)) ∧ ((type_of% @Go.AM.LOp.opds.eq_23 ∧ type_of% @Go.AM.LOp.opds.eq_24) ∧ (type_of% @Go.AM.LOp.opds.eq_25 ∧ type_of% @Go.AM.LOp.opds.eq_26))))))) ∧ ((((((type_of% @Go.AM.LOp.opds.eq_27 ∧ (type_of% @Go.AM.LOp.opds.eq_28 ∧ type_of% @Go.AM.LOp.opds.eq_29)) ∧ ((type_of% @Go.AM.LOp.opds.eq_30 ∧ type_of% @Go.AM.LOp.opds.eq_31) ∧ (type_of% @Go.AM.LOp.opds.eq_32 ∧ type_of% @Go.AM.LOp.opds.eq_33))) ∧ (((type_of% @Go.AM.LOp.opds.eq_34 ∧ type_of% @Go.AM.LOp.opds.eq_35) ∧ (type_of% @Go.AM.LOp.opds.eq_36 ∧ type_of% @Go.AM.LOp.opds.eq_37)) ∧ ((type_of% @Go.AM.LOp.opds.eq_38 ∧ type_of% @Go.AM.LOp.opds.eq_39) ∧ (type_of% @Go.AM.calmL.eq_1 ∧ type_of% @Go.AM.calmL.eq_2)))) ∧ ((((type_of% @Go.AM.AV.isUniq.eq_1 ∧ type_of% @Go.AM.AV.isUniq.eq_2) ∧ (type_of% @Go.AM.depL.eq_1 ∧ type_of% @Go.AM.depL.eq_2)) ∧ ((type_of% @Go.AM.depL.eq_3 ∧ type_of% @Go.AM.depL.eq_4) ∧ (type_of% @Go.AM.depL.eq_5 ∧ type_of% @Go.AM.depL.eq_6))) ∧ (((type_of% @Go.AM.depL.eq_7 ∧ type_of% @Go.AM.settledL.eq_1) ∧ (type_of% @Go.AM.settledL.eq_2 ∧ type_of% @Go.AM.settledL.eq_3)) ∧ ((type_of% @Go.AM.settledL.eq_4 ∧ type_of% @Go.AM.settledL.eq_5) ∧ (type_of% @Go.AM.settledL.eq_6 ∧ type_of% @Go.AM.settledL.eq_7))))) ∧ ((((type_of% @Go.AM.settledL.eq_8 ∧ (type_of% @Go.AM.settledL.eq_9 ∧ type_of% @Go.AM.settledL.eq_10)) ∧ ((type_of% @Option.toList_none.{0} ∧ type_of% @Option.toList_some.{0}) ∧ (type_of% @Go.AM.e_mv ∧ type_of% @Go.AM.e_pick))) ∧ (((type_of% @Go.AM.e_alloc ∧ type_of% @Go.AM.e_box) ∧ (type_of% @Go.AM.e_build ∧ type_of% @Go.AM.e_bsl)) ∧ ((type_of% @Go.AM.e_loadA ∧ type_of% @Go.AM.e_load1) ∧ (type_of% @Go.AM.e_store ∧ type_of% @Go.AM.e_nilc)))) ∧ ((((type_of% @Go.AM.e_bin ∧ type_of% @Go.AM.e_un) ∧ (type_of% @Go.AM.e_conv ∧ type_of% @Go.AM.e_mkfn)) ∧ ((type_of% @Go.AM.e_mkmap ∧ type_of% @Go.AM.e_mksl) ∧ (type_of% @Go.AM.e_slc ∧ type_of% @Go.AM.e_shift))) ∧ (((type_of% @Go.AM.e_part ∧ type_of% @Go.AM.e_ixa) ∧ (type_of% @Go.AM.e_ixs ∧ type_of% @Go.AM.e_ixv)) ∧ ((type_of% @Go.AM.e_look ∧ type_of% @Go.AM.e_upd) ∧ (type_of% @Go.AM.e_ext ∧ type_of% @Go.AM.e_len)))))) ∧ (((((type_of% @Go.AM.e_cap ∧ (type_of% @Go.AM.e_app ∧ type_of% @Go.AM.e_cpy)) ∧ ((type_of% @Go.AM.e_del ∧ type_of% @Go.AM.e_clr) ∧ (type_of% @Go.AM.e_mn ∧ type_of% @Go.AM.e_mx))) ∧ (((type_of% @Go.AM.e_thaw ∧ type_of% @Go.AM.e_frz) ∧ (type_of% @Go.AM.evL.eq_1 ∧ type_of% @Go.AM.evL.eq_2)) ∧ ((type_of% @Go.AM.evL.eq_3 ∧ type_of% @Go.AM.evL.eq_4) ∧ (type_of% @Go.AM.evL.eq_5 ∧ type_of% @Go.AM.evL.eq_6)))) ∧ ((((type_of% @Go.AM.evL.eq_7 ∧ type_of% @Go.AM.evL.eq_8) ∧ (type_of% @Go.AM.evL.eq_9 ∧ type_of% @Go.AM.evL.eq_10)) ∧ ((type_of% @Go.AM.evL.eq_11 ∧ type_of% @Go.AM.evL.eq_12) ∧ (type_of% @Go.AM.evL.eq_13 ∧ type_of% @Go.AM.evL.eq_14))) ∧ (((type_of% @Go.AM.evL.eq_15 ∧ type_of% @Go.AM.evL.eq_16) ∧ (type_of% @Go.AM.evL.eq_17 ∧ type_of% @Go.AM.evL.eq_18)) ∧ ((type_of% @Go.AM.evL.eq_19 ∧ type_of% @Go.AM.evL.eq_20) ∧ (type_of% @Go.AM.evL.eq_21 ∧ type_of% @Go.AM.evL.eq_22))))) ∧ (((((type_of% @Go.AM.evL.eq_23 ∧ type_of% @Go.AM.evL.eq_24) ∧ (type_of% @Go.AM.evL.eq_25 ∧ type_of% @Go.AM.evL.eq_26)) ∧ ((type_of% @Go.AM.evL.eq_27 ∧ type_of% @Go.AM.evL.eq_28) ∧ (type_of% @Go.AM.evL.eq_29 ∧ type_of% @Go.AM.evL.eq_30))) ∧ (((type_of% @Go.AM.evL.eq_31 ∧ type_of% @Go.AM.evL.eq_32) ∧ (type_of% @Go.AM.evL.eq_33 ∧ type_of% @Go.AM.evL.eq_34)) ∧ ((type_of% @Go.AM.evL.eq_35 ∧ type_of% @Go.AM.evL.eq_36) ∧ (type_of% @Go.AM.evL.eq_37 ∧ type_of% @Go.AM.evL.eq_38)))) ∧ ((((type_of% @Go.AM.evL.eq_39 ∧ type_of% @Go.AM.evL.eq_40) ∧ (type_of% @Go.AM.run_fn ∧ type_of% @Go.AM.fin_ret)) ∧ ((type_of% @Go.AM.fin_normal ∧ type_of% @Go.AM.end1_nil) ∧ (type_of% @Go.AM.end1_one ∧ type_of% @Go.AM.end1_two))) ∧ (((type_of% @Go.AM.end1_three ∧ type_of% @Go.AM.end1_four) ∧ (type_of% @Go.AM.ress_nil ∧ type_of% @Go.AM.ress_t)) ∧ ((type_of% @Go.AM.ress_many ∧ type_of% @Go.AM.ress_one) ∧ (type_of% @Go.AM.cns_some ∧ type_of% @Go.AM.cns2_some)))))))) :=
  ⟨⟨⟨⟨⟨⟨⟨@Go.AM.runC_skip, ⟨@Go.AM.runC_sq, @Go.AM.runC_tree⟩⟩, ⟨⟨@Go.AM.runC_seq, @Go.AM.runC_cond⟩, ⟨@Go.AM.runC_block, @Go.AM.runC_exit⟩⟩⟩, ⟨⟨⟨@Go.AM.runC_ret, @Go.AM.runC_loop⟩, ⟨@Go.AM.cnd_true, @Go.AM.cnd_false⟩⟩, ⟨⟨@Go.AM.nxt_nil, @Go.AM.nxt_c⟩, ⟨@Go.AM.nxt_blk, @Go.AM.nxt_lp⟩⟩⟩⟩, ⟨⟨⟨⟨@Go.AM.ext_nil, @Go.AM.ext_c⟩, ⟨@Go.AM.ext_blk, @Go.AM.ext_lp⟩⟩, ⟨⟨@Go.AM.rtn_nil, @Go.AM.rtn_c⟩, ⟨@Go.AM.rtn_blk, @Go.AM.rtn_lp⟩⟩⟩, ⟨⟨⟨@Go.AM.runS_nil, @Go.AM.runS_op⟩, ⟨@Go.AM.runS_grd, @Go.AM.grd_true⟩⟩, ⟨⟨@Go.AM.grd_false, @Go.AM.thn_some⟩, ⟨@Go.AM.opS_call, @Go.AM.call_fn⟩⟩⟩⟩⟩, ⟨⟨⟨⟨@Go.AM.call_yield, ⟨@Go.AM.bak_eq, @Go.AM.mb_t⟩⟩, ⟨⟨@Go.AM.mb_f, @Go.AM.mayb_sc⟩, ⟨@Go.AM.mayb_bl, @Go.AM.mayb_leaf⟩⟩⟩, ⟨⟨⟨@Go.AM.mayb_r0, @Go.AM.mayb_r1⟩, ⟨@Go.AM.mayb_r2, @Go.AM.mayb_r3⟩⟩, ⟨⟨@Go.AM.isEq.eq_1, @Go.AM.isEq.eq_2⟩, ⟨@Go.AM.isEq.eq_3, @Go.AM.maybeNil.eq_1⟩⟩⟩⟩, ⟨⟨⟨⟨@Go.AM.maybeNil.eq_2, @Go.AM.maybeNil.eq_3⟩, ⟨@Go.AM.runT_done, @Go.AM.runT_stop⟩⟩, ⟨⟨@Go.AM.runT_rd, @Go.AM.rdG_true⟩, ⟨@Go.AM.rdG_false, @Go.AM.rdV_some⟩⟩⟩, ⟨⟨⟨@Go.AM.runT_mv, @Go.AM.mvG_true⟩, ⟨@Go.AM.mvG_false, @Go.AM.t_mv⟩⟩, ⟨⟨@Go.AM.t_pick, @Go.AM.t_alloc⟩, ⟨@Go.AM.t_box, @Go.AM.t_build⟩⟩⟩⟩⟩⟩, ⟨⟨⟨⟨⟨@Go.AM.t_bsl, ⟨@Go.AM.t_loadA, @Go.AM.t_load1⟩⟩, ⟨⟨@Go.AM.t_store, @Go.AM.t_nilc⟩, ⟨@Go.AM.t_bin, @Go.AM.t_un⟩⟩⟩, ⟨⟨⟨@Go.AM.t_conv, @Go.AM.t_mkfn⟩, ⟨@Go.AM.t_mkmap, @Go.AM.t_mksl⟩⟩, ⟨⟨@Go.AM.t_slc, @Go.AM.t_shift⟩, ⟨@Go.AM.t_part, @Go.AM.t_ixa⟩⟩⟩⟩, ⟨⟨⟨⟨@Go.AM.t_ixs, @Go.AM.t_ixv⟩, ⟨@Go.AM.t_look, @Go.AM.t_upd⟩⟩, ⟨⟨@Go.AM.t_ext, @Go.AM.t_len⟩, ⟨@Go.AM.t_cap, @Go.AM.t_app⟩⟩⟩, ⟨⟨⟨@Go.AM.t_cpy, @Go.AM.t_del⟩, ⟨@Go.AM.t_clr, @Go.AM.t_mn⟩⟩, ⟨⟨@Go.AM.t_mx, @Go.AM.t_thaw⟩, ⟨@Go.AM.t_frz, @Go.AM.thnT_some⟩⟩⟩⟩⟩, ⟨⟨⟨⟨⟨@Go.AM.opT_call, @Go.AM.callT_fn⟩, ⟨@Go.AM.callT_yield, @Go.AM.bakT_eq⟩⟩, ⟨⟨@Go.AM.mvK_nil, @Go.AM.readL.eq_1⟩, ⟨@Go.AM.LOp.opds.eq_1, @Go.AM.LOp.opds.eq_2⟩⟩⟩, ⟨⟨⟨@Go.AM.LOp.opds.eq_3, @Go.AM.LOp.opds.eq_4⟩, ⟨@Go.AM.LOp.opds.eq_5, @Go.AM.LOp.opds.eq_6⟩⟩, ⟨⟨@Go.AM.LOp.opds.eq_7, @Go.AM.LOp.opds.eq_8⟩, ⟨@Go.AM.LOp.opds.eq_9, @Go.AM.LOp.opds.eq_10⟩⟩⟩⟩, ⟨⟨⟨⟨@Go.AM.LOp.opds.eq_11, @Go.AM.LOp.opds.eq_12⟩, ⟨@Go.AM.LOp.opds.eq_13, @Go.AM.LOp.opds.eq_14⟩⟩, ⟨⟨@Go.AM.LOp.opds.eq_15, @Go.AM.LOp.opds.eq_16⟩, ⟨@Go.AM.LOp.opds.eq_17, @Go.AM.LOp.opds.eq_18⟩⟩⟩, ⟨⟨⟨@Go.AM.LOp.opds.eq_19, @Go.AM.LOp.opds.eq_20⟩, ⟨@Go.AM.LOp.opds.eq_21, @Go.AM.LOp.opds.eq_22⟩⟩, ⟨⟨@Go.AM.LOp.opds.eq_23, @Go.AM.LOp.opds.eq_24⟩, ⟨@Go.AM.LOp.opds.eq_25, @Go.AM.LOp.opds.eq_26⟩⟩⟩⟩⟩⟩⟩, ⟨⟨⟨⟨⟨⟨@Go.AM.LOp.opds.eq_27, ⟨@Go.AM.LOp.opds.eq_28, @Go.AM.LOp.opds.eq_29⟩⟩, ⟨⟨@Go.AM.LOp.opds.eq_30, @Go.AM.LOp.opds.eq_31⟩, ⟨@Go.AM.LOp.opds.eq_32, @Go.AM.LOp.opds.eq_33⟩⟩⟩, ⟨⟨⟨@Go.AM.LOp.opds.eq_34, @Go.AM.LOp.opds.eq_35⟩, ⟨@Go.AM.LOp.opds.eq_36, @Go.AM.LOp.opds.eq_37⟩⟩, ⟨⟨@Go.AM.LOp.opds.eq_38, @Go.AM.LOp.opds.eq_39⟩, ⟨@Go.AM.calmL.eq_1, @Go.AM.calmL.eq_2⟩⟩⟩⟩, ⟨⟨⟨⟨@Go.AM.AV.isUniq.eq_1, @Go.AM.AV.isUniq.eq_2⟩, ⟨@Go.AM.depL.eq_1, @Go.AM.depL.eq_2⟩⟩, ⟨⟨@Go.AM.depL.eq_3, @Go.AM.depL.eq_4⟩, ⟨@Go.AM.depL.eq_5, @Go.AM.depL.eq_6⟩⟩⟩, ⟨⟨⟨@Go.AM.depL.eq_7, @Go.AM.settledL.eq_1⟩, ⟨@Go.AM.settledL.eq_2, @Go.AM.settledL.eq_3⟩⟩, ⟨⟨@Go.AM.settledL.eq_4, @Go.AM.settledL.eq_5⟩, ⟨@Go.AM.settledL.eq_6, @Go.AM.settledL.eq_7⟩⟩⟩⟩⟩, ⟨⟨⟨⟨@Go.AM.settledL.eq_8, ⟨@Go.AM.settledL.eq_9, @Go.AM.settledL.eq_10⟩⟩, ⟨⟨@Option.toList_none.{0}, @Option.toList_some.{0}⟩, ⟨@Go.AM.e_mv, @Go.AM.e_pick⟩⟩⟩, ⟨⟨⟨@Go.AM.e_alloc, @Go.AM.e_box⟩, ⟨@Go.AM.e_build, @Go.AM.e_bsl⟩⟩, ⟨⟨@Go.AM.e_loadA, @Go.AM.e_load1⟩, ⟨@Go.AM.e_store, @Go.AM.e_nilc⟩⟩⟩⟩, ⟨⟨⟨⟨@Go.AM.e_bin, @Go.AM.e_un⟩, ⟨@Go.AM.e_conv, @Go.AM.e_mkfn⟩⟩, ⟨⟨@Go.AM.e_mkmap, @Go.AM.e_mksl⟩, ⟨@Go.AM.e_slc, @Go.AM.e_shift⟩⟩⟩, ⟨⟨⟨@Go.AM.e_part, @Go.AM.e_ixa⟩, ⟨@Go.AM.e_ixs, @Go.AM.e_ixv⟩⟩, ⟨⟨@Go.AM.e_look, @Go.AM.e_upd⟩, ⟨@Go.AM.e_ext, @Go.AM.e_len⟩⟩⟩⟩⟩⟩, ⟨⟨⟨⟨⟨@Go.AM.e_cap, ⟨@Go.AM.e_app, @Go.AM.e_cpy⟩⟩, ⟨⟨@Go.AM.e_del, @Go.AM.e_clr⟩, ⟨@Go.AM.e_mn, @Go.AM.e_mx⟩⟩⟩, ⟨⟨⟨@Go.AM.e_thaw, @Go.AM.e_frz⟩, ⟨@Go.AM.evL.eq_1, @Go.AM.evL.eq_2⟩⟩, ⟨⟨@Go.AM.evL.eq_3, @Go.AM.evL.eq_4⟩, ⟨@Go.AM.evL.eq_5, @Go.AM.evL.eq_6⟩⟩⟩⟩, ⟨⟨⟨⟨@Go.AM.evL.eq_7, @Go.AM.evL.eq_8⟩, ⟨@Go.AM.evL.eq_9, @Go.AM.evL.eq_10⟩⟩, ⟨⟨@Go.AM.evL.eq_11, @Go.AM.evL.eq_12⟩, ⟨@Go.AM.evL.eq_13, @Go.AM.evL.eq_14⟩⟩⟩, ⟨⟨⟨@Go.AM.evL.eq_15, @Go.AM.evL.eq_16⟩, ⟨@Go.AM.evL.eq_17, @Go.AM.evL.eq_18⟩⟩, ⟨⟨@Go.AM.evL.eq_19, @Go.AM.evL.eq_20⟩, ⟨@Go.AM.evL.eq_21, @Go.AM.evL.eq_22⟩⟩⟩⟩⟩, ⟨⟨⟨⟨⟨@Go.AM.evL.eq_23, @Go.AM.evL.eq_24⟩, ⟨@Go.AM.evL.eq_25, @Go.AM.evL.eq_26⟩⟩, ⟨⟨@Go.AM.evL.eq_27, @Go.AM.evL.eq_28⟩, ⟨@Go.AM.evL.eq_29, @Go.AM.evL.eq_30⟩⟩⟩, ⟨⟨⟨@Go.AM.evL.eq_31, @Go.AM.evL.eq_32⟩, ⟨@Go.AM.evL.eq_33, @Go.AM.evL.eq_34⟩⟩, ⟨⟨@Go.AM.evL.eq_35, @Go.AM.evL.eq_36⟩, ⟨@Go.AM.evL.eq_37, @Go.AM.evL.eq_38⟩⟩⟩⟩, ⟨⟨⟨⟨@Go.AM.evL.eq_39, @Go.AM.evL.eq_40⟩, ⟨@Go.AM.run_fn, @Go.AM.fin_ret⟩⟩, ⟨⟨@Go.AM.fin_normal, @Go.AM.end1_nil⟩, ⟨@Go.AM.end1_one, @Go.AM.end1_two⟩⟩⟩, ⟨⟨⟨@Go.AM.end1_three, @Go.AM.end1_four⟩, ⟨@Go.AM.ress_nil, @Go.AM.ress_t⟩⟩, ⟨⟨@Go.AM.ress_many, @Go.AM.ress_one⟩, ⟨@Go.AM.cns_some, @Go.AM.cns2_some⟩⟩⟩⟩⟩⟩⟩⟩
theorem FR_ :
  ((((((type_of% @Go.AM.putA.eq_1 ∧ (type_of% @Go.AM.putA.eq_2 ∧ type_of% @Go.AM.opL.eq_1)) ∧ (type_of% @Go.AM.opL.eq_2 ∧ (type_of% @Go.AM.opL.eq_3 ∧ type_of% @Go.AM.opL.eq_4))) ∧ ((type_of% @Go.AM.seL.eq_1 ∧ (type_of% @Go.AM.tkL.eq_1 ∧ type_of% @Go.AM.tkL.eq_2)) ∧ ((type_of% @Go.AM.tkL.eq_3 ∧ type_of% @Go.AM.tkAllL.eq_1) ∧ (type_of% @Go.AM.tkAllL.eq_2 ∧ type_of% @Go.AM.sharedL.eq_1)))) ∧ (((type_of% @Go.AM.sharedL.eq_2 ∧ (type_of% @Go.AM.settleL.eq_1 ∧ type_of% @Go.AM.settleL.eq_2)) ∧ ((type_of% @Go.AM.guardL.eq_1 ∧ type_of% @Go.AM.guardL.eq_2) ∧ (type_of% @Go.AM.AV.look.eq_1 ∧ type_of% @Go.AM.AV.look.eq_2))) ∧ ((type_of% @Go.AM.AV.look.eq_3 ∧ (type_of% @Go.AM.AV.sh.eq_1 ∧ type_of% @Go.AM.AV.sh.eq_2)) ∧ ((type_of% @Go.AM.AV.sh.eq_3 ∧ type_of% @Go.AM.AV.left.eq_1) ∧ (type_of% @Go.AM.AV.left.eq_2 ∧ type_of% @Go.AM.AV.left.eq_3))))) ∧ ((((type_of% @Go.AM.AV.calm.eq_1 ∧ (type_of% @Go.AM.AV.calm.eq_2 ∧ type_of% @Go.AM.AV.cells.eq_1)) ∧ (type_of% @Go.AM.AV.cells.eq_2 ∧ (type_of% @Go.AM.AV.fit.eq_1 ∧ type_of% @Go.AM.AV.fit.eq_2))) ∧ ((type_of% @Go.AM.AV.fit.eq_3 ∧ (type_of% @Go.AM.AV.isSlice.eq_1 ∧ type_of% @Go.AM.AV.isSlice.eq_2)) ∧ ((type_of% @Go.AM.AV.isSlice.eq_3 ∧ type_of% @Go.AM.AV.isSlice.eq_4) ∧ (type_of% @Go.AM.AV.isStr.eq_1 ∧ type_of% @Go.AM.AV.isStr.eq_2)))) ∧ (((type_of% @Go.AM.AV.nilKind.eq_1 ∧ (type_of% @Go.AM.AV.nilKind.eq_2 ∧ type_of% @Go.AM.AV.nilKind.eq_3)) ∧ ((type_of% @Go.AM.AV.nilKind.eq_4 ∧ type_of% @Go.AM.AV.nilKind.eq_5) ∧ (type_of% @Go.AM.AV.refKind.eq_1 ∧ type_of% @Go.AM.AV.refKind.eq_2))) ∧ ((type_of% @Go.AM.AV.refKind.eq_3 ∧ (type_of% @Go.AM.AV.refKind.eq_4 ∧ type_of% @Go.AM.AV.refKind.eq_5)) ∧ ((type_of% @Go.AM.AV.refKind.eq_6 ∧ type_of% @Go.AM.AV.refKind.eq_7) ∧ (type_of% @Go.AM.AV.refKind.eq_8 ∧ type_of% @List.getD_cons_zero.{0})))))) ∧ (((((type_of% @List.getD_cons_succ.{0} ∧ (type_of% @List.set_cons_zero.{0} ∧ type_of% @List.set_cons_succ.{0})) ∧ (type_of% @List.getElem?_cons_zero.{0} ∧ (type_of% @List.getElem?_cons_succ.{0} ∧ type_of% @List.length_cons.{0}))) ∧ ((type_of% @List.length_nil.{0} ∧ (type_of% @List.replicate_succ.{0} ∧ type_of% @List.replicate_zero.{0})) ∧ ((type_of% @List.cons_append.{0} ∧ type_of% @List.nil_append.{0}) ∧ (type_of% @List.append_nil.{0} ∧ type_of% @List.map_cons.{0, 0})))) ∧ (((type_of% @List.map_nil.{0, 0} ∧ (type_of% @List.take_succ_cons.{0} ∧ type_of% @List.take_zero.{0})) ∧ ((type_of% @List.drop_succ_cons.{0} ∧ type_of% @List.drop_zero.{0}) ∧ (type_of% @List.all_cons.{0} ∧ type_of% @List.all_nil.{0}))) ∧ ((type_of% @Option.map_some.{0, 0} ∧ (type_of% @Option.map_none.{0, 0} ∧ type_of% @Option.bind_some.{0, 0})) ∧ ((type_of% @Nat.zero_add ∧ type_of% @Nat.add_zero) ∧ (type_of% @Nat.zero_mul ∧ type_of% @Go.AM.cast_lit))))) ∧ ((((type_of% @Go.AM.gd_t ∧ (type_of% @Go.AM.gd_f ∧ type_of% @gt_iff_lt.{0})) ∧ ((type_of% @ge_iff_le.{0} ∧ type_of% @or_self) ∧ (type_of% @or_false ∧ type_of% @false_or))) ∧ ((type_of% @true_implies ∧ (type_of% @false_implies ∧ type_of% @and_true)) ∧ ((type_of% @true_and ∧ type_of% @Bool.false_eq_true) ∧ (type_of% @Bool.true_eq_false ∧ type_of% @not_false_eq_true)))) ∧ (((type_of% @not_true_eq_false ∧ (type_of% @beq_self_eq_true.{0} ∧ type_of% @beq_iff_eq.{0})) ∧ ((type_of% @Bool.and_true ∧ type_of% @Bool.true_and) ∧ (type_of% @Bool.and_self ∧ type_of% @Bool.not_true))) ∧ ((type_of% @Bool.not_false ∧ (type_of% @Bool.or_false ∧ type_of% @Bool.false_or)) ∧ ((type_of% @Bool.or_true ∧ type_of% @Bool.true_or) ∧ (type_of% @decide_true ∧ type_of% @decide_false))))))) :=
  ⟨⟨⟨⟨⟨⟨@Go.AM.putA.eq_1, ⟨@Go.AM.putA.eq_2, @Go.AM.opL.eq_1⟩⟩, ⟨@Go.AM.opL.eq_2, ⟨@Go.AM.opL.eq_3, @Go.AM.opL.eq_4⟩⟩⟩, ⟨⟨@Go.AM.seL.eq_1, ⟨@Go.AM.tkL.eq_1, @Go.AM.tkL.eq_2⟩⟩, ⟨⟨@Go.AM.tkL.eq_3, @Go.AM.tkAllL.eq_1⟩, ⟨@Go.AM.tkAllL.eq_2, @Go.AM.sharedL.eq_1⟩⟩⟩⟩, ⟨⟨⟨@Go.AM.sharedL.eq_2, ⟨@Go.AM.settleL.eq_1, @Go.AM.settleL.eq_2⟩⟩, ⟨⟨@Go.AM.guardL.eq_1, @Go.AM.guardL.eq_2⟩, ⟨@Go.AM.AV.look.eq_1, @Go.AM.AV.look.eq_2⟩⟩⟩, ⟨⟨@Go.AM.AV.look.eq_3, ⟨@Go.AM.AV.sh.eq_1, @Go.AM.AV.sh.eq_2⟩⟩, ⟨⟨@Go.AM.AV.sh.eq_3, @Go.AM.AV.left.eq_1⟩, ⟨@Go.AM.AV.left.eq_2, @Go.AM.AV.left.eq_3⟩⟩⟩⟩⟩, ⟨⟨⟨⟨@Go.AM.AV.calm.eq_1, ⟨@Go.AM.AV.calm.eq_2, @Go.AM.AV.cells.eq_1⟩⟩, ⟨@Go.AM.AV.cells.eq_2, ⟨@Go.AM.AV.fit.eq_1, @Go.AM.AV.fit.eq_2⟩⟩⟩, ⟨⟨@Go.AM.AV.fit.eq_3, ⟨@Go.AM.AV.isSlice.eq_1, @Go.AM.AV.isSlice.eq_2⟩⟩, ⟨⟨@Go.AM.AV.isSlice.eq_3, @Go.AM.AV.isSlice.eq_4⟩, ⟨@Go.AM.AV.isStr.eq_1, @Go.AM.AV.isStr.eq_2⟩⟩⟩⟩, ⟨⟨⟨@Go.AM.AV.nilKind.eq_1, ⟨@Go.AM.AV.nilKind.eq_2, @Go.AM.AV.nilKind.eq_3⟩⟩, ⟨⟨@Go.AM.AV.nilKind.eq_4, @Go.AM.AV.nilKind.eq_5⟩, ⟨@Go.AM.AV.refKind.eq_1, @Go.AM.AV.refKind.eq_2⟩⟩⟩, ⟨⟨@Go.AM.AV.refKind.eq_3, ⟨@Go.AM.AV.refKind.eq_4, @Go.AM.AV.refKind.eq_5⟩⟩, ⟨⟨@Go.AM.AV.refKind.eq_6, @Go.AM.AV.refKind.eq_7⟩, ⟨@Go.AM.AV.refKind.eq_8, @List.getD_cons_zero.{0}⟩⟩⟩⟩⟩⟩, ⟨⟨⟨⟨⟨@List.getD_cons_succ.{0}, ⟨@List.set_cons_zero.{0}, @List.set_cons_succ.{0}⟩⟩, ⟨@List.getElem?_cons_zero.{0}, ⟨@List.getElem?_cons_succ.{0}, @List.length_cons.{0}⟩⟩⟩, ⟨⟨@List.length_nil.{0}, ⟨@List.replicate_succ.{0}, @List.replicate_zero.{0}⟩⟩, ⟨⟨@List.cons_append.{0}, @List.nil_append.{0}⟩, ⟨@List.append_nil.{0}, @List.map_cons.{0, 0}⟩⟩⟩⟩, ⟨⟨⟨@List.map_nil.{0, 0}, ⟨@List.take_succ_cons.{0}, @List.take_zero.{0}⟩⟩, ⟨⟨@List.drop_succ_cons.{0}, @List.drop_zero.{0}⟩, ⟨@List.all_cons.{0}, @List.all_nil.{0}⟩⟩⟩, ⟨⟨@Option.map_some.{0, 0}, ⟨@Option.map_none.{0, 0}, @Option.bind_some.{0, 0}⟩⟩, ⟨⟨@Nat.zero_add, @Nat.add_zero⟩, ⟨@Nat.zero_mul, @Go.AM.cast_lit⟩⟩⟩⟩⟩, ⟨⟨⟨⟨@Go.AM.gd_t, ⟨@Go.AM.gd_f, @gt_iff_lt.{0}⟩⟩, ⟨⟨@ge_iff_le.{0}, @or_self⟩, ⟨@or_false, @false_or⟩⟩⟩, ⟨⟨@true_implies, ⟨@false_implies, @and_true⟩⟩, ⟨⟨@true_and, @Bool.false_eq_true⟩, ⟨@Bool.true_eq_false, @not_false_eq_true⟩⟩⟩⟩, ⟨⟨⟨@not_true_eq_false, ⟨@beq_self_eq_true.{0}, @beq_iff_eq.{0}⟩⟩, ⟨⟨@Bool.and_true, @Bool.true_and⟩, ⟨@Bool.and_self, @Bool.not_true⟩⟩⟩, ⟨⟨@Bool.not_false, ⟨@Bool.or_false, @Bool.false_or⟩⟩, ⟨⟨@Bool.or_true, @Bool.true_or⟩, ⟨@decide_true, @decide_false⟩⟩⟩⟩⟩⟩⟩
theorem OPK_ :
  ((((((type_of% @Go.AM.binL.eq_1 ∧ type_of% @Go.AM.binL.eq_2) ∧ (type_of% @Go.AM.binL.eq_3 ∧ (type_of% @Go.AM.binL.eq_4 ∧ type_of% @Go.AM.binL.eq_5))) ∧ ((type_of% @Go.AM.binL.eq_6 ∧ type_of% @Go.AM.binL.eq_7) ∧ (type_of% @Go.AM.binL.eq_8 ∧ (type_of% @Go.AM.binL.eq_9 ∧ type_of% @Go.AM.binL.eq_10)))) ∧ (((type_of% @Go.AM.binL.eq_11 ∧ type_of% @Go.AM.scBin.eq_1) ∧ (type_of% @Go.AM.scBin.eq_2 ∧ (type_of% @Go.AM.scBin.eq_3 ∧ type_of% @Go.AM.scBin.eq_4))) ∧ ((type_of% @Go.AM.scBin.eq_5 ∧ (type_of% @Go.AM.scBin.eq_6 ∧ type_of% @Go.AM.blBin.eq_1)) ∧ (type_of% @Go.AM.blBin.eq_2 ∧ (type_of% @Go.AM.blBin.eq_3 ∧ type_of% @Go.AM.intBin.eq_1))))) ∧ ((((type_of% @Go.AM.intBin.eq_2 ∧ type_of% @Go.AM.intBin.eq_3) ∧ (type_of% @Go.AM.intBin.eq_4 ∧ (type_of% @Go.AM.intBin.eq_5 ∧ type_of% @Go.AM.intBin.eq_6))) ∧ ((type_of% @Go.AM.intBin.eq_7 ∧ (type_of% @Go.AM.intBin.eq_8 ∧ type_of% @Go.AM.intBin.eq_9)) ∧ (type_of% @Go.AM.intBin.eq_10 ∧ (type_of% @Go.AM.intBin.eq_11 ∧ type_of% @Go.AM.intBin.eq_12)))) ∧ (((type_of% @Go.AM.intBin.eq_13 ∧ type_of% @Go.AM.intBin.eq_14) ∧ (type_of% @Go.AM.intBin.eq_15 ∧ (type_of% @Go.AM.intBin.eq_16 ∧ type_of% @Go.AM.intShift.eq_1))) ∧ ((type_of% @Go.AM.intShift.eq_2 ∧ (type_of% @Go.AM.intShift.eq_3 ∧ type_of% @Go.AM.unL.eq_1)) ∧ (type_of% @Go.AM.unL.eq_2 ∧ (type_of% @Go.AM.unL.eq_3 ∧ type_of% @Go.AM.unL.eq_4)))))) ∧ (((((type_of% @Go.AM.load1L.eq_1 ∧ type_of% @Go.AM.load1L.eq_2) ∧ (type_of% @Go.AM.load1L.eq_3 ∧ (type_of% @Go.AM.load1L.eq_4 ∧ type_of% @Go.AM.readCells.eq_1))) ∧ ((type_of% @Go.AM.readCells.eq_2 ∧ (type_of% @Go.AM.readCells.eq_3 ∧ type_of% @Go.AM.splice.eq_1)) ∧ (type_of% @Go.AM.splice.eq_2 ∧ (type_of% @Go.AM.mayHold.eq_1 ∧ type_of% @Go.AM.mayHold.eq_2)))) ∧ (((type_of% @Go.AM.boxOf_stk ∧ type_of% @Go.AM.boxOf_heap) ∧ (type_of% @Go.AM.setBox_stk ∧ (type_of% @Go.AM.setBox_heap ∧ type_of% @Go.AM.newBox_stk))) ∧ ((type_of% @Go.AM.newBox_heap ∧ (type_of% @Go.AM.app_get0 ∧ type_of% @Go.AM.app_get)) ∧ (type_of% @Go.AM.app_set0 ∧ (type_of% @Go.AM.app_set ∧ type_of% @Go.AM.app_take))))) ∧ ((((type_of% @Go.AM.app_one ∧ type_of% @List.length_append.{0}) ∧ (type_of% @Go.AM.shift.eq_1 ∧ (type_of% @Go.AM.shift.eq_2 ∧ type_of% @Go.AM.shift.eq_3))) ∧ ((type_of% @Go.AM.partL.eq_1 ∧ (type_of% @Go.AM.partL.eq_2 ∧ type_of% @Go.AM.capL.eq_1)) ∧ (type_of% @Go.AM.capL.eq_2 ∧ (type_of% @Go.AM.capL.eq_3 ∧ type_of% @Nat.add_assoc)))) ∧ (((type_of% @Go.AM.AV.under.eq_1 ∧ type_of% @Go.AM.AV.under.eq_2) ∧ (type_of% @Go.AM.AV.under.eq_3 ∧ (type_of% @Go.AM.AV.under.eq_4 ∧ type_of% @Go.AM.AV.under.eq_5))) ∧ ((type_of% @Go.AM.AV.under.eq_6 ∧ (type_of% @Go.AM.AV.under.go.eq_1 ∧ type_of% @Go.AM.AV.under.go.eq_2)) ∧ (type_of% @Go.AM.finL.eq_1 ∧ (type_of% @Go.AM.finL.eq_2 ∧ type_of% @Go.AM.finL.eq_3))))))) :=
  ⟨⟨⟨⟨⟨⟨@Go.AM.binL.eq_1, @Go.AM.binL.eq_2⟩, ⟨@Go.AM.binL.eq_3, ⟨@Go.AM.binL.eq_4, @Go.AM.binL.eq_5⟩⟩⟩, ⟨⟨@Go.AM.binL.eq_6, @Go.AM.binL.eq_7⟩, ⟨@Go.AM.binL.eq_8, ⟨@Go.AM.binL.eq_9, @Go.AM.binL.eq_10⟩⟩⟩⟩, ⟨⟨⟨@Go.AM.binL.eq_11, @Go.AM.scBin.eq_1⟩, ⟨@Go.AM.scBin.eq_2, ⟨@Go.AM.scBin.eq_3, @Go.AM.scBin.eq_4⟩⟩⟩, ⟨⟨@Go.AM.scBin.eq_5, ⟨@Go.AM.scBin.eq_6, @Go.AM.blBin.eq_1⟩⟩, ⟨@Go.AM.blBin.eq_2, ⟨@Go.AM.blBin.eq_3, @Go.AM.intBin.eq_1⟩⟩⟩⟩⟩, ⟨⟨⟨⟨@Go.AM.intBin.eq_2, @Go.AM.intBin.eq_3⟩, ⟨@Go.AM.intBin.eq_4, ⟨@Go.AM.intBin.eq_5, @Go.AM.intBin.eq_6⟩⟩⟩, ⟨⟨@Go.AM.intBin.eq_7, ⟨@Go.AM.intBin.eq_8, @Go.AM.intBin.eq_9⟩⟩, ⟨@Go.AM.intBin.eq_10, ⟨@Go.AM.intBin.eq_11, @Go.AM.intBin.eq_12⟩⟩⟩⟩, ⟨⟨⟨@Go.AM.intBin.eq_13, @Go.AM.intBin.eq_14⟩, ⟨@Go.AM.intBin.eq_15, ⟨@Go.AM.intBin.eq_16, @Go.AM.intShift.eq_1⟩⟩⟩, ⟨⟨@Go.AM.intShift.eq_2, ⟨@Go.AM.intShift.eq_3, @Go.AM.unL.eq_1⟩⟩, ⟨@Go.AM.unL.eq_2, ⟨@Go.AM.unL.eq_3, @Go.AM.unL.eq_4⟩⟩⟩⟩⟩⟩, ⟨⟨⟨⟨⟨@Go.AM.load1L.eq_1, @Go.AM.load1L.eq_2⟩, ⟨@Go.AM.load1L.eq_3, ⟨@Go.AM.load1L.eq_4, @Go.AM.readCells.eq_1⟩⟩⟩, ⟨⟨@Go.AM.readCells.eq_2, ⟨@Go.AM.readCells.eq_3, @Go.AM.splice.eq_1⟩⟩, ⟨@Go.AM.splice.eq_2, ⟨@Go.AM.mayHold.eq_1, @Go.AM.mayHold.eq_2⟩⟩⟩⟩, ⟨⟨⟨@Go.AM.boxOf_stk, @Go.AM.boxOf_heap⟩, ⟨@Go.AM.setBox_stk, ⟨@Go.AM.setBox_heap, @Go.AM.newBox_stk⟩⟩⟩, ⟨⟨@Go.AM.newBox_heap, ⟨@Go.AM.app_get0, @Go.AM.app_get⟩⟩, ⟨@Go.AM.app_set0, ⟨@Go.AM.app_set, @Go.AM.app_take⟩⟩⟩⟩⟩, ⟨⟨⟨⟨@Go.AM.app_one, @List.length_append.{0}⟩, ⟨@Go.AM.shift.eq_1, ⟨@Go.AM.shift.eq_2, @Go.AM.shift.eq_3⟩⟩⟩, ⟨⟨@Go.AM.partL.eq_1, ⟨@Go.AM.partL.eq_2, @Go.AM.capL.eq_1⟩⟩, ⟨@Go.AM.capL.eq_2, ⟨@Go.AM.capL.eq_3, @Nat.add_assoc⟩⟩⟩⟩, ⟨⟨⟨@Go.AM.AV.under.eq_1, @Go.AM.AV.under.eq_2⟩, ⟨@Go.AM.AV.under.eq_3, ⟨@Go.AM.AV.under.eq_4, @Go.AM.AV.under.eq_5⟩⟩⟩, ⟨⟨@Go.AM.AV.under.eq_6, ⟨@Go.AM.AV.under.go.eq_1, @Go.AM.AV.under.go.eq_2⟩⟩, ⟨@Go.AM.finL.eq_1, ⟨@Go.AM.finL.eq_2, @Go.AM.finL.eq_3⟩⟩⟩⟩⟩⟩⟩
theorem KEY_ :
  ((((((type_of% @Go.AM.bslL.eq_1 ∧ type_of% @Go.AM.fillE.eq_1) ∧ (type_of% @Go.AM.fillE.eq_2 ∧ (type_of% @List.isEmpty_nil.{0} ∧ type_of% @List.isEmpty_cons.{0}))) ∧ ((type_of% @Go.AM.under_s ∧ type_of% @Go.AM.cells_s) ∧ (type_of% @Go.AM.fit_s ∧ (type_of% @Go.AM.under_list ∧ type_of% @Go.AM.cells_list)))) ∧ (((type_of% @Go.AM.fit_list ∧ type_of% @Go.AM.storeS_stk) ∧ (type_of% @Go.AM.storeS_stk0 ∧ (type_of% @Go.AM.storeQ_stk ∧ type_of% @Go.AM.storeQ_stk0))) ∧ ((type_of% @Go.AM.cellsOf_some ∧ (type_of% @Go.AM.cells_u8 ∧ type_of% @Go.AM.fit_u8)) ∧ (type_of% @Go.AM.kA_cells ∧ (type_of% @Go.AM.kA_under ∧ type_of% @Go.AM.kA_low))))) ∧ ((((type_of% @Go.AM.kA_calm ∧ type_of% @Go.AM.under_u8) ∧ (type_of% @Go.AM.look_u8 ∧ (type_of% @Go.AM.elems_list ∧ type_of% @Go.AM.storeL_stk))) ∧ ((type_of% @Go.AM.storeL_stk0 ∧ (type_of% @Go.AM.readA_rop ∧ type_of% @Go.AM.readA_stk)) ∧ (type_of% @Go.AM.readA_stk0 ∧ (type_of% @Go.AM.zk_eq ∧ type_of% @Go.AM.kc_length)))) ∧ (((type_of% @Go.AM.take_kc ∧ type_of% @Go.AM.drop_kc) ∧ (type_of% @Go.AM.take_kc0 ∧ (type_of% @Go.AM.drop_zero' ∧ type_of% @Go.AM.get_kc16))) ∧ ((type_of% @Go.AM.get_kc17 ∧ (type_of% @Go.AM.take_all ∧ type_of% @Go.AM.look_app)) ∧ (type_of% @Go.AM.map_look_bs ∧ (type_of% @Go.AM.under_app' ∧ type_of% @Go.AM.under_bs)))))) ∧ (((((type_of% @Go.AM.ixl_k ∧ type_of% @Go.AM.lenL_list) ∧ (type_of% @Go.AM.lenL_str ∧ (type_of% @Go.AM.beq_app_k ∧ type_of% @Go.AM.beq_kk))) ∧ ((type_of% @Go.AM.fits_k ∧ (type_of% @Go.AM.fits_kr ∧ type_of% @Go.AM.slice_box)) ∧ (type_of% @Go.AM.fillL_nil ∧ (type_of% @Go.AM.len_map' ∧ type_of% @List.length_append.{0})))) ∧ (((type_of% @List.getD_cons_zero.{0} ∧ type_of% @List.getD_cons_succ.{0}) ∧ (type_of% @Go.AM.cellsEq.eq_1 ∧ (type_of% @List.getD_nil.{0} ∧ type_of% @List.length_set.{0}))) ∧ ((type_of% @Nat.zero_lt_succ ∧ (type_of% @Nat.lt_irrefl ∧ type_of% @List.set_cons_zero.{0})) ∧ (type_of% @List.set_cons_succ.{0} ∧ (type_of% @Nat.le_refl ∧ type_of% @Go.AM.fitsL.eq_1))))) ∧ ((((type_of% @Go.AM.fitsL.eq_2 ∧ type_of% @Go.AM.fitsL.eq_3) ∧ (type_of% @Go.AM.AV.beq.go.eq_1 ∧ (type_of% @Go.AM.AV.beq.go.eq_2 ∧ type_of% @Go.AM.AV.beq.go.eq_3))) ∧ ((type_of% @Go.AM.AV.beq.eq_1 ∧ (type_of% @Go.AM.AV.beq.eq_2 ∧ type_of% @Go.AM.AV.beq.eq_3)) ∧ (type_of% @Go.AM.AV.beq.eq_4 ∧ (type_of% @Go.AM.AV.beq.eq_5 ∧ type_of% @Go.AM.AV.beq.eq_6)))) ∧ (((type_of% @Go.AM.AV.beq.eq_7 ∧ type_of% @Go.AM.AV.beq.eq_8) ∧ (type_of% @Go.AM.AV.beq.eq_9 ∧ (type_of% @Go.AM.AV.beq.eq_10 ∧ type_of% @Go.AM.AV.beq.eq_11))) ∧ ((type_of% @Go.AM.AV.beq.eq_12 ∧ (type_of% @List.length_nil.{0} ∧ type_of% @List.length_cons.{0})) ∧ (type_of% @Go.AM.AV.cells.eq_1 ∧ (type_of% @Go.AM.AV.cells.eq_2 ∧ type_of% @Int.toNat_natCast))))))) :=
  ⟨⟨⟨⟨⟨⟨@Go.AM.bslL.eq_1, @Go.AM.fillE.eq_1⟩, ⟨@Go.AM.fillE.eq_2, ⟨@List.isEmpty_nil.{0}, @List.isEmpty_cons.{0}⟩⟩⟩, ⟨⟨@Go.AM.under_s, @Go.AM.cells_s⟩, ⟨@Go.AM.fit_s, ⟨@Go.AM.under_list, @Go.AM.cells_list⟩⟩⟩⟩, ⟨⟨⟨@Go.AM.fit_list, @Go.AM.storeS_stk⟩, ⟨@Go.AM.storeS_stk0, ⟨@Go.AM.storeQ_stk, @Go.AM.storeQ_stk0⟩⟩⟩, ⟨⟨@Go.AM.cellsOf_some, ⟨@Go.AM.cells_u8, @Go.AM.fit_u8⟩⟩, ⟨@Go.AM.kA_cells, ⟨@Go.AM.kA_under, @Go.AM.kA_low⟩⟩⟩⟩⟩, ⟨⟨⟨⟨@Go.AM.kA_calm, @Go.AM.under_u8⟩, ⟨@Go.AM.look_u8, ⟨@Go.AM.elems_list, @Go.AM.storeL_stk⟩⟩⟩, ⟨⟨@Go.AM.storeL_stk0, ⟨@Go.AM.readA_rop, @Go.AM.readA_stk⟩⟩, ⟨@Go.AM.readA_stk0, ⟨@Go.AM.zk_eq, @Go.AM.kc_length⟩⟩⟩⟩, ⟨⟨⟨@Go.AM.take_kc, @Go.AM.drop_kc⟩, ⟨@Go.AM.take_kc0, ⟨@Go.AM.drop_zero', @Go.AM.get_kc16⟩⟩⟩, ⟨⟨@Go.AM.get_kc17, ⟨@Go.AM.take_all, @Go.AM.look_app⟩⟩, ⟨@Go.AM.map_look_bs, ⟨@Go.AM.under_app', @Go.AM.under_bs⟩⟩⟩⟩⟩⟩, ⟨⟨⟨⟨⟨@Go.AM.ixl_k, @Go.AM.lenL_list⟩, ⟨@Go.AM.lenL_str, ⟨@Go.AM.beq_app_k, @Go.AM.beq_kk⟩⟩⟩, ⟨⟨@Go.AM.fits_k, ⟨@Go.AM.fits_kr, @Go.AM.slice_box⟩⟩, ⟨@Go.AM.fillL_nil, ⟨@Go.AM.len_map', @List.length_append.{0}⟩⟩⟩⟩, ⟨⟨⟨@List.getD_cons_zero.{0}, @List.getD_cons_succ.{0}⟩, ⟨@Go.AM.cellsEq.eq_1, ⟨@List.getD_nil.{0}, @List.length_set.{0}⟩⟩⟩, ⟨⟨@Nat.zero_lt_succ, ⟨@Nat.lt_irrefl, @List.set_cons_zero.{0}⟩⟩, ⟨@List.set_cons_succ.{0}, ⟨@Nat.le_refl, @Go.AM.fitsL.eq_1⟩⟩⟩⟩⟩, ⟨⟨⟨⟨@Go.AM.fitsL.eq_2, @Go.AM.fitsL.eq_3⟩, ⟨@Go.AM.AV.beq.go.eq_1, ⟨@Go.AM.AV.beq.go.eq_2, @Go.AM.AV.beq.go.eq_3⟩⟩⟩, ⟨⟨@Go.AM.AV.beq.eq_1, ⟨@Go.AM.AV.beq.eq_2, @Go.AM.AV.beq.eq_3⟩⟩, ⟨@Go.AM.AV.beq.eq_4, ⟨@Go.AM.AV.beq.eq_5, @Go.AM.AV.beq.eq_6⟩⟩⟩⟩, ⟨⟨⟨@Go.AM.AV.beq.eq_7, @Go.AM.AV.beq.eq_8⟩, ⟨@Go.AM.AV.beq.eq_9, ⟨@Go.AM.AV.beq.eq_10, @Go.AM.AV.beq.eq_11⟩⟩⟩, ⟨⟨@Go.AM.AV.beq.eq_12, ⟨@List.length_nil.{0}, @List.length_cons.{0}⟩⟩, ⟨@Go.AM.AV.cells.eq_1, ⟨@Go.AM.AV.cells.eq_2, @Int.toNat_natCast⟩⟩⟩⟩⟩⟩⟩
theorem WR_ :
  (((type_of% @Go.AM.wc_length ∧ (type_of% @Go.AM.wc_under ∧ type_of% @Go.AM.wA_low)) ∧ (type_of% @Go.AM.look_wc ∧ (type_of% @Go.AM.beq_wc ∧ type_of% @Go.AM.fits_wc))) ∧ ((type_of% @Go.AM.ixl_w ∧ (type_of% @Go.AM.take_wc ∧ type_of% @Go.AM.take_wk)) ∧ (type_of% @Go.AM.drop_wc ∧ (type_of% @Go.AM.shift_rop ∧ type_of% @Go.AM.load1_rop)))) :=
  ⟨⟨⟨@Go.AM.wc_length, ⟨@Go.AM.wc_under, @Go.AM.wA_low⟩⟩, ⟨@Go.AM.look_wc, ⟨@Go.AM.beq_wc, @Go.AM.fits_wc⟩⟩⟩, ⟨⟨@Go.AM.ixl_w, ⟨@Go.AM.take_wc, @Go.AM.take_wk⟩⟩, ⟨@Go.AM.drop_wc, ⟨@Go.AM.shift_rop, @Go.AM.load1_rop⟩⟩⟩⟩
theorem CHK_ :
  (((type_of% @Go.AM.mvK_cons ∧ type_of% @Go.AM.okAll_nil) ∧ (type_of% @Go.AM.okAll_cons ∧ (type_of% @Go.AM.leftC_nil ∧ type_of% @Go.AM.leftC_cons))) ∧ ((type_of% @Go.AM.okC_true ∧ type_of% @Go.AM.okC_false) ∧ (type_of% @Go.AM.sameV_some ∧ (type_of% @List.contains_cons.{0} ∧ type_of% @List.contains_nil.{0})))) :=
  ⟨⟨⟨@Go.AM.mvK_cons, @Go.AM.okAll_nil⟩, ⟨@Go.AM.okAll_cons, ⟨@Go.AM.leftC_nil, @Go.AM.leftC_cons⟩⟩⟩, ⟨⟨@Go.AM.okC_true, @Go.AM.okC_false⟩, ⟨@Go.AM.sameV_some, ⟨@List.contains_cons.{0}, @List.contains_nil.{0}⟩⟩⟩⟩
end Go.AM
/-! Functions, lowered. -/
namespace Go.AM
open Go
set_option linter.unusedVariables false
set_option maxRecDepth 20000
-- cmp_isNaN_int64: 
def cmp_isNaN_int64_k1 : LCode := (.seq (.sq [⟨some 3, none, .mv false (.t 0)⟩, ⟨some 4, none, .mv false (.t 0)⟩, ⟨some 5, none, .bin .neq .sc (.t 3) (.t 4)⟩, ⟨some 2, none, .mv true (.t 5)⟩]) .ret)
theorem U_cmp_isNaN_int64 : type_of% (@unfC _ _ (cmp_isNaN_int64_k1.eq_1)) := @unfC _ _ (cmp_isNaN_int64_k1.eq_1)
def C_cmp_isNaN_int64 : LFn := ⟨6, [.t 2], (.seq (.sq [⟨some 2, none, .mv true (.c (.bool false))⟩]) cmp_isNaN_int64_k1)⟩

-- cmp_isNaN_uint8: 
def cmp_isNaN_uint8_k1 : LCode := (.seq (.sq [⟨some 3, none, .mv false (.t 0)⟩, ⟨some 4, none, .mv false (.t 0)⟩, ⟨some 5, none, .bin .neq .sc (.t 3) (.t 4)⟩, ⟨some 2, none, .mv true (.t 5)⟩]) .ret)
theorem U_cmp_isNaN_uint8 : type_of% (@unfC _ _ (cmp_isNaN_uint8_k1.eq_1)) := @unfC _ _ (cmp_isNaN_uint8_k1.eq_1)
def C_cmp_isNaN_uint8 : LFn := ⟨6, [.t 2], (.seq (.sq [⟨some 2, none, .mv true (.c (.bool false))⟩]) cmp_isNaN_uint8_k1)⟩

-- cmp_Compare_int64: 0=cmp_isNaN_int64
def cmp_Compare_int64_k1 (c : Nat → FuncId) : LCode := (.seq (.seq (.sq [⟨some 12, none, .mv false (.t 6)⟩]) (.cond (.t 12) (.seq (.sq [⟨some 4, none, .mv true (.c (.int .i64 0))⟩]) .ret) .skip)) (.seq (.sq [⟨some 4, none, .mv true (.c (.int .i64 (-1)))⟩]) .ret))
def cmp_Compare_int64_k2 (c : Nat → FuncId) : LCode := (.seq (.seq (.sq [⟨some 17, none, .mv false (.t 0)⟩, ⟨some 18, none, .mv false (.t 1)⟩, ⟨some 19, none, .bin .gtr .sc (.t 17) (.t 18)⟩]) (.cond (.t 19) (.seq (.sq [⟨some 4, none, .mv true (.c (.int .i64 1))⟩]) .ret) .skip)) (.seq (.sq [⟨some 4, none, .mv true (.c (.int .i64 0))⟩]) .ret))
def cmp_Compare_int64_k3 (c : Nat → FuncId) : LCode := (.seq (.seq (.sq [⟨some 14, none, .mv false (.t 0)⟩, ⟨some 15, none, .mv false (.t 1)⟩, ⟨some 16, none, .bin .lss .sc (.t 14) (.t 15)⟩]) (.cond (.t 16) (.seq (.sq [⟨some 4, none, .mv true (.c (.int .i64 (-1)))⟩]) .ret) .skip)) (cmp_Compare_int64_k2 c))
def cmp_Compare_int64_k4 (c : Nat → FuncId) : LCode := (.seq (.seq (.sq [⟨some 13, none, .mv false (.t 6)⟩]) (.cond (.t 13) (.seq (.sq [⟨some 4, none, .mv true (.c (.int .i64 1))⟩]) .ret) .skip)) (cmp_Compare_int64_k3 c))
def cmp_Compare_int64_k5 (c : Nat → FuncId) : LCode := (.seq (.seq (.sq [⟨some 11, none, .mv false (.t 5)⟩]) (.cond (.t 11) (cmp_Compare_int64_k1 c) .skip)) (cmp_Compare_int64_k4 c))
def cmp_Compare_int64_k6 (c : Nat → FuncId) : LCode := (.seq (.sq [⟨some 9, none, .mv false (.t 1)⟩, ⟨some 10, none, .call (.f (c 0)) [(.t 9)]⟩, ⟨some 6, none, .mv true (.t 10)⟩]) (cmp_Compare_int64_k5 c))
def cmp_Compare_int64_k7 (c : Nat → FuncId) : LCode := (.seq (.sq [⟨some 7, none, .mv false (.t 0)⟩, ⟨some 8, none, .call (.f (c 0)) [(.t 7)]⟩, ⟨some 5, none, .mv true (.t 8)⟩]) (cmp_Compare_int64_k6 c))
theorem U_cmp_Compare_int64 (c : Nat → FuncId) : ((type_of% (@unfC _ _ (cmp_Compare_int64_k1.eq_1 c)) ∧ (type_of% (@unfC _ _ (cmp_Compare_int64_k2.eq_1 c)) ∧ type_of% (@unfC _ _ (cmp_Compare_int64_k3.eq_1 c)))) ∧ ((type_of% (@unfC _ _ (cmp_Compare_int64_k4.eq_1 c)) ∧ type_of% (@unfC _ _ (cmp_Compare_int64_k5.eq_1 c))) ∧ (type_of% (@unfC _ _ (cmp_Compare_int64_k6.eq_1 c)) ∧ type_of% (@unfC _ _ (cmp_Compare_int64_k7.eq_1 c))))) := ⟨⟨@unfC _ _ (cmp_Compare_int64_k1.eq_1 c), ⟨@unfC _ _ (cmp_Compare_int64_k2.eq_1 c), @unfC _ _ (cmp_Compare_int64_k3.eq_1 c)⟩⟩, ⟨⟨@unfC _ _ (cmp_Compare_int64_k4.eq_1 c), @unfC _ _ (cmp_Compare_int64_k5.eq_1 c)⟩, ⟨@unfC _ _ (cmp_Compare_int64_k6.eq_1 c), @unfC _ _ (cmp_Compare_int64_k7.eq_1 c)⟩⟩⟩
def C_cmp_Compare_int64 (c : Nat → FuncId) : LFn := ⟨20, [.t 4], (.seq (.sq [⟨some 4, none, .mv true (.c (.int .i64 0))⟩]) (cmp_Compare_int64_k7 c))⟩

-- cmp_Compare_uint8: 0=cmp_isNaN_uint8
def cmp_Compare_uint8_k1 (c : Nat → FuncId) : LCode := (.seq (.seq (.sq [⟨some 12, none, .mv false (.t 6)⟩]) (.cond (.t 12) (.seq (.sq [⟨some 4, none, .mv true (.c (.int .i64 0))⟩]) .ret) .skip)) (.seq (.sq [⟨some 4, none, .mv true (.c (.int .i64 (-1)))⟩]) .ret))
def cmp_Compare_uint8_k2 (c : Nat → FuncId) : LCode := (.seq (.seq (.sq [⟨some 17, none, .mv false (.t 0)⟩, ⟨some 18, none, .mv false (.t 1)⟩, ⟨some 19, none, .bin .gtr .sc (.t 17) (.t 18)⟩]) (.cond (.t 19) (.seq (.sq [⟨some 4, none, .mv true (.c (.int .i64 1))⟩]) .ret) .skip)) (.seq (.sq [⟨some 4, none, .mv true (.c (.int .i64 0))⟩]) .ret))
def cmp_Compare_uint8_k3 (c : Nat → FuncId) : LCode := (.seq (.seq (.sq [⟨some 14, none, .mv false (.t 0)⟩, ⟨some 15, none, .mv false (.t 1)⟩, ⟨some 16, none, .bin .lss .sc (.t 14) (.t 15)⟩]) (.cond (.t 16) (.seq (.sq [⟨some 4, none, .mv true (.c (.int .i64 (-1)))⟩]) .ret) .skip)) (cmp_Compare_uint8_k2 c))
def cmp_Compare_uint8_k4 (c : Nat → FuncId) : LCode := (.seq (.seq (.sq [⟨some 13, none, .mv false (.t 6)⟩]) (.cond (.t 13) (.seq (.sq [⟨some 4, none, .mv true (.c (.int .i64 1))⟩]) .ret) .skip)) (cmp_Compare_uint8_k3 c))
def cmp_Compare_uint8_k5 (c : Nat → FuncId) : LCode := (.seq (.seq (.sq [⟨some 11, none, .mv false (.t 5)⟩]) (.cond (.t 11) (cmp_Compare_uint8_k1 c) .skip)) (cmp_Compare_uint8_k4 c))
def cmp_Compare_uint8_k6 (c : Nat → FuncId) : LCode := (.seq (.sq [⟨some 9, none, .mv false (.t 1)⟩, ⟨some 10, none, .call (.f (c 0)) [(.t 9)]⟩, ⟨some 6, none, .mv true (.t 10)⟩]) (cmp_Compare_uint8_k5 c))
def cmp_Compare_uint8_k7 (c : Nat → FuncId) : LCode := (.seq (.sq [⟨some 7, none, .mv false (.t 0)⟩, ⟨some 8, none, .call (.f (c 0)) [(.t 7)]⟩, ⟨some 5, none, .mv true (.t 8)⟩]) (cmp_Compare_uint8_k6 c))
theorem U_cmp_Compare_uint8 (c : Nat → FuncId) : ((type_of% (@unfC _ _ (cmp_Compare_uint8_k1.eq_1 c)) ∧ (type_of% (@unfC _ _ (cmp_Compare_uint8_k2.eq_1 c)) ∧ type_of% (@unfC _ _ (cmp_Compare_uint8_k3.eq_1 c)))) ∧ ((type_of% (@unfC _ _ (cmp_Compare_uint8_k4.eq_1 c)) ∧ type_of% (@unfC _ _ (cmp_Compare_uint8_k5.eq_1 c))) ∧ (type_of% (@unfC _ _ (cmp_Compare_uint8_k6.eq_1 c)) ∧ type_of% (@unfC _ _ (cmp_Compare_uint8_k7.eq_1 c))))) := ⟨⟨@unfC _ _ (cmp_Compare_uint8_k1.eq_1 c), ⟨@unfC _ _ (cmp_Compare_uint8_k2.eq_1 c), @unfC _ _ (cmp_Compare_uint8_k3.eq_1 c)⟩⟩, ⟨⟨@unfC _ _ (cmp_Compare_uint8_k4.eq_1 c), @unfC _ _ (cmp_Compare_uint8_k5.eq_1 c)⟩, ⟨@unfC _ _ (cmp_Compare_uint8_k6.eq_1 c), @unfC _ _ (cmp_Compare_uint8_k7.eq_1 c)⟩⟩⟩
def C_cmp_Compare_uint8 (c : Nat → FuncId) : LFn := ⟨20, [.t 4], (.seq (.sq [⟨some 4, none, .mv true (.c (.int .i64 0))⟩]) (cmp_Compare_uint8_k7 c))⟩

-- cmp_Or_int: 
def cmp_Or_int_k1 : LCode := (.cond (.t 14) (.seq (.sq [⟨some 15, none, .mv false (.t 5)⟩, ⟨some 2, none, .mv true (.t 15)⟩]) .ret) .skip)
def cmp_Or_int_k2 : LCode := (.seq (.sq [⟨some 12, none, .mv false (.t 5)⟩, ⟨some 13, none, .mv false (.t 3)⟩, ⟨some 14, none, .bin .neq .sc (.t 12) (.t 13)⟩]) cmp_Or_int_k1)
def cmp_Or_int_k3 : LCode := (.seq (.block 1 (.seq (.sq [⟨some 10, none, .ixa (.sl 1) (.t 6) (.t 8)⟩, ⟨some 11, none, .load1 false (.t 10)⟩, ⟨some 5, none, .mv true (.t 11)⟩]) cmp_Or_int_k2)) (.sq [⟨some 16, none, .bin .add .sc (.t 8) (.c (.int .i64 1))⟩, ⟨some 8, none, .mv false (.t 16)⟩]))
def cmp_Or_int_k4 : LCode := (.block 0 (.loop [false, false, false, true, false, false, true, true, true, false, false, false, false, false, false, false, false, false] (.seq (.sq [⟨some 9, none, .bin .lss .sc (.t 8) (.t 7)⟩]) (.seq (.cond (.t 9) .skip (.exit 0)) cmp_Or_int_k3))))
def cmp_Or_int_k5 : LCode := (.seq (.seq (.sq [⟨some 6, none, .mv false (.t 0)⟩, ⟨some 7, none, .len .sl (.t 6)⟩, ⟨some 8, none, .mv false (.c (.int .i64 0))⟩]) cmp_Or_int_k4) (.seq (.sq [⟨some 17, none, .mv false (.t 3)⟩, ⟨some 2, none, .mv true (.t 17)⟩]) .ret))
theorem U_cmp_Or_int : ((type_of% (@unfC _ _ (cmp_Or_int_k1.eq_1)) ∧ type_of% (@unfC _ _ (cmp_Or_int_k2.eq_1))) ∧ (type_of% (@unfC _ _ (cmp_Or_int_k3.eq_1)) ∧ (type_of% (@unfC _ _ (cmp_Or_int_k4.eq_1)) ∧ type_of% (@unfC _ _ (cmp_Or_int_k5.eq_1))))) := ⟨⟨@unfC _ _ (cmp_Or_int_k1.eq_1), @unfC _ _ (cmp_Or_int_k2.eq_1)⟩, ⟨@unfC _ _ (cmp_Or_int_k3.eq_1), ⟨@unfC _ _ (cmp_Or_int_k4.eq_1), @unfC _ _ (cmp_Or_int_k5.eq_1)⟩⟩⟩
def C_cmp_Or_int : LFn := ⟨18, [.t 2], (.seq (.sq [⟨some 2, none, .mv true (.c (.int .i64 0))⟩]) (.seq (.sq [⟨some 3, none, .mv true (.c (.int .i64 0))⟩]) cmp_Or_int_k5))⟩

-- stamp_Cmp: 0=cmp_Compare_int64 1=cmp_Compare_uint8 2=cmp_Or_int
def stamp_Cmp_k1 (c : Nat → FuncId) : LCode := (.seq (.tree (.rd ⟨some 5, none, .shift 0 (.t 2)⟩ 0 false (.rd ⟨some 6, none, .load1 false (.t 5)⟩ 1 false (.rd ⟨some 7, none, .shift 0 (.t 3)⟩ 2 false (.rd ⟨some 8, none, .load1 false (.t 7)⟩ 3 false (.rd ⟨some 10, none, .shift 1 (.t 2)⟩ 5 true (.rd ⟨some 11, none, .load1 false (.t 10)⟩ 6 true (.rd ⟨some 12, none, .shift 1 (.t 3)⟩ 7 true (.rd ⟨some 13, none, .load1 false (.t 12)⟩ 8 true (.mv ⟨some 9, none, .call (.f (c 0)) [(.t 6), (.t 8)]⟩ [0, 1, 2, 3] (.mv ⟨some 14, none, .call (.f (c 1)) [(.t 11), (.t 13)]⟩ [0, 1, 2, 3, 4, 5, 6, 7, 8] (.rd ⟨some 15, none, .bsl ⟨1, false, 8, (.s (.int .i64 0))⟩ 2 [(0, (.t 9)), (1, (.t 14))]⟩ 10 false (.mv ⟨some 16, none, .call (.f (c 2)) [(.t 15)]⟩ [0, 1, 2, 3, 4, 5, 6, 7, 8, 9, 10] (.mv ⟨some 4, none, .mv true (.t 16)⟩ [0, 1, 2, 3, 4, 5, 6, 7, 8, 9, 10, 11] .done .stop) .stop)) .stop) .stop)))))))))) .ret)
theorem U_stamp_Cmp (c : Nat → FuncId) : type_of% (@unfC _ _ (stamp_Cmp_k1.eq_1 c)) := @unfC _ _ (stamp_Cmp_k1.eq_1 c)
def C_stamp_Cmp (c : Nat → FuncId) : LFn := ⟨17, [.t 4], (.seq (.sq [⟨some 2, none, .box false false (.t 0)⟩, ⟨some 3, none, .box false false (.t 1)⟩, ⟨some 4, none, .mv true (.c (.int .i64 0))⟩]) (stamp_Cmp_k1 c))⟩

-- hourglassref6_Cmp: 
def hourglassref6_Cmp_k1 : LCode := (.seq (.sq [⟨some 26, none, .loadA 2 (.t 2)⟩, ⟨some 27, none, .loadA 2 (.t 3)⟩, ⟨some 28, none, .bin .eql (.leaf [.int .i64, .int .u8]) (.t 26) (.t 27)⟩, ⟨some 25, none, .mv true (.t 28)⟩]) (.cond (.t 25) (.seq (.sq [⟨some 4, none, .mv true (.c (.int .i64 0))⟩]) .ret) .skip))
def hourglassref6_Cmp_k2 : LCode := (.seq (.block 0 (.seq (.sq [⟨some 6, none, .shift 0 (.t 2)⟩, ⟨some 7, none, .load1 false (.t 6)⟩, ⟨some 8, none, .shift 0 (.t 3)⟩, ⟨some 9, none, .load1 false (.t 8)⟩, ⟨some 10, none, .bin .lss .sc (.t 7) (.t 9)⟩, ⟨some 11, none, .mv false (.t 10)⟩, ⟨some 12, some (11, false), .shift 0 (.t 2)⟩, ⟨some 13, some (11, false), .load1 false (.t 12)⟩, ⟨some 14, some (11, false), .shift 0 (.t 3)⟩, ⟨some 15, some (11, false), .load1 false (.t 14)⟩, ⟨some 16, some (11, false), .bin .eql .sc (.t 13) (.t 15)⟩, ⟨some 17, some (11, false), .mv false (.t 16)⟩, ⟨some 18, some (17, true), .shift 1 (.t 2)⟩, ⟨some 19, some (17, true), .load1 false (.t 18)⟩, ⟨some 20, some (17, true), .shift 1 (.t 3)⟩, ⟨some 21, some (17, true), .load1 false (.t 20)⟩, ⟨some 22, some (17, true), .bin .lss .sc (.t 19) (.t 21)⟩, ⟨some 23, some (11, false), .pick (.t 17) (.t 22) (.c (.bool false))⟩, ⟨some 24, none, .pick (.t 11) (.c (.bool true)) (.t 23)⟩, ⟨some 5, none, .mv true (.t 24)⟩]) (.cond (.t 5) (.seq (.sq [⟨some 4, none, .mv true (.c (.int .i64 (-1)))⟩]) .ret) hourglassref6_Cmp_k1))) (.seq (.sq [⟨some 4, none, .mv true (.c (.int .i64 1))⟩]) .ret))
theorem U_hourglassref6_Cmp : (type_of% (@unfC _ _ (hourglassref6_Cmp_k1.eq_1)) ∧ type_of% (@unfC _ _ (hourglassref6_Cmp_k2.eq_1))) := ⟨@unfC _ _ (hourglassref6_Cmp_k1.eq_1), @unfC _ _ (hourglassref6_Cmp_k2.eq_1)⟩
def C_hourglassref6_Cmp : LFn := ⟨29, [.t 4], (.seq (.sq [⟨some 2, none, .box false false (.t 0)⟩, ⟨some 3, none, .box false false (.t 1)⟩, ⟨some 4, none, .mv true (.c (.int .i64 0))⟩]) hourglassref6_Cmp_k2)⟩

-- hourglassref6_Good: 
-- hist_Txn_last: 0=slices_Backward_Write 1=hist_Txn_last
def hist_Txn_last_k1 (c : Nat → FuncId) (as1 bd1 : Code) : LCode := (.seq (.sq [⟨some 18, none, .build (zk ++ [(.s (.str [])), (.s (.bool false))]) []⟩, ⟨none, none, .store 18 (.t 4) (.t 18)⟩, ⟨none, none, .store 1 (.t 5) (.c (.bool false))⟩]) .ret)
def hist_Txn_last_k2 (c : Nat → FuncId) (as1 bd1 : Code) : LCode := (.seq (.seq (.sq [⟨some 8, none, .shift 7 (.t 2)⟩, ⟨some 9, none, .load1 false (.t 8)⟩, ⟨some 10, none, .call (.f (c 0)) [(.t 9)]⟩]) (.block 0 (.rfun (.t 10) (c 1) #[11, 12] as1 bd1))) (hist_Txn_last_k1 c as1 bd1))
theorem U_hist_Txn_last (c : Nat → FuncId) (as1 bd1 : Code) : (type_of% (@unfC _ _ (hist_Txn_last_k1.eq_1 c as1 bd1)) ∧ type_of% (@unfC _ _ (hist_Txn_last_k2.eq_1 c as1 bd1))) := ⟨@unfC _ _ (hist_Txn_last_k1.eq_1 c as1 bd1), @unfC _ _ (hist_Txn_last_k2.eq_1 c as1 bd1)⟩
def C_hist_Txn_last (c : Nat → FuncId) (as1 bd1 : Code) : LFn := ⟨19, [.many 4 18, .one 5], (.seq (.sq [⟨some 2, none, .box false false (.t 0)⟩, ⟨some 3, none, .box false true (.t 1)⟩, ⟨some 4, none, .alloc true (zk ++ [(.s (.str [])), (.s (.bool false))])⟩, ⟨some 5, none, .alloc true [(.s (.bool false))]⟩]) (hist_Txn_last_k2 c as1 bd1))⟩

-- hist_Txn_last_a0: 
def C_hist_Txn_last_a0 : LFn := ⟨0, [], (.sq [⟨some 7, none, .alloc false (zk ++ [(.s (.str [])), (.s (.bool false))])⟩, ⟨none, none, .store 18 (.t 7) (.t 12)⟩])⟩

-- hist_Txn_last_b0: 
def hist_Txn_last_b0_k1 : LCode := (.seq (.sq [⟨some 17, none, .loadA 18 (.t 7)⟩, ⟨none, none, .store 18 (.t 4) (.t 17)⟩, ⟨none, none, .store 1 (.t 5) (.c (.bool true))⟩]) .ret)
theorem U_hist_Txn_last_b0 : type_of% (@unfC _ _ (hist_Txn_last_b0_k1.eq_1)) := @unfC _ _ (hist_Txn_last_b0_k1.eq_1)
def C_hist_Txn_last_b0 : LFn := ⟨0, [], (.block 1 (.seq (.sq [⟨some 13, none, .shift 0 (.t 7)⟩, ⟨some 14, none, .loadA 16 (.t 13)⟩, ⟨some 15, none, .loadA 16 (.t 3)⟩, ⟨some 16, none, .bin .eql (.leaf lk) (.t 14) (.t 15)⟩]) (.cond (.t 16) hist_Txn_last_b0_k1 .skip)))⟩

-- hist_Value: 0=hist_Txn_last 1=stamp_Cmp
def hist_Value_k1 (c : Nat → FuncId) : LCode := (.tree (.rd ⟨some 51, none, .loadA 18 (.t 13)⟩ 0 false (.rd ⟨some 52, none, .shift 3 (.t 12)⟩ 1 true (.rd ⟨some 53, none, .loadA 2 (.t 52)⟩ 2 true (.mv ⟨none, none, .store 18 (.t 8) (.t 51)⟩ [0] (.mv ⟨none, none, .store 2 (.t 9) (.t 53)⟩ [0, 1, 2, 3] (.mv ⟨some 10, none, .mv true (.c (.bool true))⟩ [0, 1, 2, 3, 4] .done .stop) .stop) .stop)))))
def hist_Value_k2 (c : Nat → FuncId) : LCode := (.seq (.seq (.sq [⟨some 27, none, .mv false (.t 14)⟩, ⟨some 28, none, .un .not (.t 27)⟩, ⟨some 29, none, .mv false (.t 28)⟩, ⟨some 30, some (29, false), .shift 5 (.t 12)⟩, ⟨some 31, some (29, false), .load1 false (.t 30)⟩, ⟨some 32, some (29, false), .un .not (.t 31)⟩, ⟨some 33, none, .pick (.t 29) (.c (.bool true)) (.t 32)⟩, ⟨some 34, none, .mv false (.t 33)⟩, ⟨some 35, some (34, false), .shift 3 (.t 12)⟩, ⟨some 36, some (34, false), .loadA 2 (.t 35)⟩, ⟨some 37, some (34, false), .loadA 2 (.t 5)⟩, ⟨some 38, some (34, false), .call (.f (c 1)) [(.t 36), (.t 37)]⟩, ⟨some 39, some (34, false), .bin .gtr .sc (.t 38) (.c (.int .i64 0))⟩, ⟨some 40, none, .pick (.t 34) (.c (.bool true)) (.t 39)⟩, ⟨some 41, none, .mv false (.t 40)⟩, ⟨some 42, some (41, false), .mv false (.t 10)⟩, ⟨some 43, some (41, false), .mv false (.t 42)⟩, ⟨some 44, some (43, true), .shift 3 (.t 12)⟩, ⟨some 45, some (43, true), .loadA 2 (.t 44)⟩, ⟨some 46, some (43, true), .loadA 2 (.t 9)⟩, ⟨some 47, some (43, true), .call (.f (c 1)) [(.t 45), (.t 46)]⟩, ⟨some 48, some (43, true), .bin .leq .sc (.t 47) (.c (.int .i64 0))⟩, ⟨some 49, some (41, false), .pick (.t 43) (.t 48) (.c (.bool false))⟩, ⟨some 50, none, .pick (.t 41) (.c (.bool true)) (.t 49)⟩]) (.cond (.t 50) (.exit 1) .skip)) (hist_Value_k1 c))
def hist_Value_k3 (c : Nat → FuncId) : LCode := (.seq (.sq [⟨some 22, none, .loadA 8 (.t 12)⟩, ⟨some 23, none, .loadA 16 (.t 4)⟩, ⟨some 24, none, .call (.f (c 0)) [(.t 22), (.t 23)]⟩, ⟨some 21, none, .mv false (.t 24)⟩, ⟨some 25, none, .ext (.t 21) 0⟩, ⟨some 26, none, .ext (.t 21) 1⟩, ⟨some 13, none, .alloc false (zk ++ [(.s (.str [])), (.s (.bool false))])⟩, ⟨none, none, .store 18 (.t 13) (.t 25)⟩, ⟨some 14, none, .mv true (.t 26)⟩]) (hist_Value_k2 c))
def hist_Value_k4 (c : Nat → FuncId) : LCode := (.seq (.block 1 (.seq (.sq [⟨some 19, none, .ixa (.sl 8) (.t 15) (.t 17)⟩, ⟨some 20, none, .loadA 8 (.t 19)⟩, ⟨some 12, none, .alloc false [(.s (.int .i64 0)), (.s (.int .i64 0)), (.s (.int .u8 0)), (.s (.int .i64 0)), (.s (.int .u8 0)), (.s (.bool false)), (.s .nilS), (.s .nilS)]⟩, ⟨none, none, .store 8 (.t 12) (.t 20)⟩]) (hist_Value_k3 c))) (.sq [⟨some 54, none, .bin .add .sc (.t 17) (.c (.int .i64 1))⟩, ⟨some 17, none, .mv false (.t 54)⟩]))
def hist_Value_k5 (c : Nat → FuncId) : LCode := (.block 0 (.loop [false, false, false, false, true, true, false, false, true, true, true, false, false, false, false, true, true, true, false, false, false, false, false, false, false, false, false, false, false, false, false, false, false, false, false, false, false, false, false, false, false, false, false, false, false, false, false, false, false, false, false, false, false, false, false, false, false, false, false, false, false, false, false] (.seq (.sq [⟨some 18, none, .bin .lss .sc (.t 17) (.t 16)⟩]) (.seq (.cond (.t 18) .skip (.exit 0)) (hist_Value_k4 c)))))
def hist_Value_k6 (c : Nat → FuncId) : LCode := (.cond (.t 60) (.seq (.sq [⟨some 6, none, .mv true (.c (.str []))⟩, ⟨some 7, none, .mv true (.c (.bool false))⟩]) .ret) .skip)
def hist_Value_k7 (c : Nat → FuncId) : LCode := (.seq (.sq [⟨some 61, none, .shift 16 (.t 8)⟩, ⟨some 62, none, .load1 false (.t 61)⟩, ⟨some 6, none, .mv true (.t 62)⟩, ⟨some 7, none, .mv true (.c (.bool true))⟩]) .ret)
def hist_Value_k8 (c : Nat → FuncId) : LCode := (.seq (.seq (.sq [⟨some 55, none, .mv false (.t 10)⟩, ⟨some 56, none, .un .not (.t 55)⟩, ⟨some 57, none, .mv false (.t 56)⟩, ⟨some 58, some (57, false), .shift 17 (.t 8)⟩, ⟨some 59, some (57, false), .load1 false (.t 58)⟩, ⟨some 60, none, .pick (.t 57) (.c (.bool true)) (.t 59)⟩]) (hist_Value_k6 c)) (hist_Value_k7 c))
def hist_Value_k9 (c : Nat → FuncId) : LCode := (.seq (.seq (.sq [⟨some 15, none, .mv false (.t 0)⟩, ⟨some 16, none, .len .sl (.t 15)⟩, ⟨some 17, none, .mv false (.c (.int .i64 0))⟩]) (hist_Value_k5 c)) (hist_Value_k8 c))
def hist_Value_k10 (c : Nat → FuncId) : LCode := (.seq (.sq [⟨some 9, none, .alloc false [(.s (.int .i64 0)), (.s (.int .u8 0))]⟩]) (.seq (.sq [⟨some 10, none, .mv true (.c (.bool false))⟩]) (hist_Value_k9 c)))
theorem U_hist_Value (c : Nat → FuncId) : (((type_of% (@unfC _ _ (hist_Value_k1.eq_1 c)) ∧ type_of% (@unfC _ _ (hist_Value_k2.eq_1 c))) ∧ (type_of% (@unfC _ _ (hist_Value_k3.eq_1 c)) ∧ (type_of% (@unfC _ _ (hist_Value_k4.eq_1 c)) ∧ type_of% (@unfC _ _ (hist_Value_k5.eq_1 c))))) ∧ ((type_of% (@unfC _ _ (hist_Value_k6.eq_1 c)) ∧ type_of% (@unfC _ _ (hist_Value_k7.eq_1 c))) ∧ (type_of% (@unfC _ _ (hist_Value_k8.eq_1 c)) ∧ (type_of% (@unfC _ _ (hist_Value_k9.eq_1 c)) ∧ type_of% (@unfC _ _ (hist_Value_k10.eq_1 c)))))) := ⟨⟨⟨@unfC _ _ (hist_Value_k1.eq_1 c), @unfC _ _ (hist_Value_k2.eq_1 c)⟩, ⟨@unfC _ _ (hist_Value_k3.eq_1 c), ⟨@unfC _ _ (hist_Value_k4.eq_1 c), @unfC _ _ (hist_Value_k5.eq_1 c)⟩⟩⟩, ⟨⟨@unfC _ _ (hist_Value_k6.eq_1 c), @unfC _ _ (hist_Value_k7.eq_1 c)⟩, ⟨@unfC _ _ (hist_Value_k8.eq_1 c), ⟨@unfC _ _ (hist_Value_k9.eq_1 c), @unfC _ _ (hist_Value_k10.eq_1 c)⟩⟩⟩⟩
def C_hist_Value (c : Nat → FuncId) : LFn := ⟨63, [.t 6, .t 7], (.seq (.sq [⟨some 4, none, .box false false (.t 1)⟩, ⟨some 5, none, .box false false (.t 2)⟩, ⟨some 6, none, .mv true (.c (.str []))⟩, ⟨some 7, none, .mv true (.c (.bool false))⟩]) (.seq (.sq [⟨some 8, none, .alloc false (zk ++ [(.s (.str [])), (.s (.bool false))])⟩]) (hist_Value_k10 c)))⟩

-- hist_alone: 0=hist_Txn_wrote 1=stamp_Cmp
def hist_alone_k1 (c : Nat → FuncId) : LCode := (.seq (.sq [⟨some 23, none, .mv false (.t 4)⟩, ⟨some 24, none, .build [(.s (.int .i64 0)), (.s (.int .i64 0)), (.s (.int .i64 0))] [(0, 1, (.c (.int .i64 1))), (1, 1, (.t 23)), (2, 1, (.c (.int .i64 (-1))))]⟩, ⟨none, none, .store 3 (.t 2) (.t 24)⟩, ⟨some 3, none, .mv true (.c (.bool true))⟩]) .ret)
def hist_alone_k2 (c : Nat → FuncId) : LCode := (.seq (.sq [⟨some 13, none, .loadA 8 (.t 5)⟩, ⟨some 14, none, .call (.f (c 0)) [(.t 13)]⟩, ⟨some 15, none, .mv false (.t 14)⟩, ⟨some 16, some (15, true), .shift 3 (.t 5)⟩, ⟨some 17, some (15, true), .loadA 2 (.t 16)⟩, ⟨some 18, some (15, true), .shift 1 (.t 5)⟩, ⟨some 19, some (15, true), .loadA 2 (.t 18)⟩, ⟨some 20, some (15, true), .call (.f (c 1)) [(.t 17), (.t 19)]⟩, ⟨some 21, some (15, true), .bin .leq .sc (.t 20) (.c (.int .i64 0))⟩, ⟨some 22, none, .pick (.t 15) (.t 21) (.c (.bool false))⟩]) (.cond (.t 22) (hist_alone_k1 c) .skip))
def hist_alone_k3 (c : Nat → FuncId) : LCode := (.seq (.block 1 (.seq (.sq [⟨some 10, none, .mv false (.t 8)⟩, ⟨some 11, none, .ixa (.sl 8) (.t 6) (.t 8)⟩, ⟨some 12, none, .loadA 8 (.t 11)⟩, ⟨some 5, none, .alloc false [(.s (.int .i64 0)), (.s (.int .i64 0)), (.s (.int .u8 0)), (.s (.int .i64 0)), (.s (.int .u8 0)), (.s (.bool false)), (.s .nilS), (.s .nilS)]⟩, ⟨some 4, none, .mv true (.t 10)⟩, ⟨none, none, .store 8 (.t 5) (.t 12)⟩]) (hist_alone_k2 c))) (.sq [⟨some 25, none, .bin .add .sc (.t 8) (.c (.int .i64 1))⟩, ⟨some 8, none, .mv false (.t 25)⟩]))
def hist_alone_k4 (c : Nat → FuncId) : LCode := (.block 0 (.loop [false, false, true, false, false, false, true, true, true, false, false, false, false, false, false, false, false, false, false, false, false, false, false, false, false, false, false] (.seq (.sq [⟨some 9, none, .bin .lss .sc (.t 8) (.t 7)⟩]) (.seq (.cond (.t 9) .skip (.exit 0)) (hist_alone_k3 c)))))
def hist_alone_k5 (c : Nat → FuncId) : LCode := (.seq (.sq [⟨some 26, none, .build [(.s (.int .i64 0)), (.s (.int .i64 0)), (.s (.int .i64 0))] []⟩, ⟨none, none, .store 3 (.t 2) (.t 26)⟩, ⟨some 3, none, .mv true (.c (.bool false))⟩]) .ret)
def hist_alone_k6 (c : Nat → FuncId) : LCode := (.seq (.seq (.sq [⟨some 6, none, .mv false (.t 0)⟩, ⟨some 7, none, .len .sl (.t 6)⟩, ⟨some 8, none, .mv false (.c (.int .i64 0))⟩]) (hist_alone_k4 c)) (hist_alone_k5 c))
theorem U_hist_alone (c : Nat → FuncId) : ((type_of% (@unfC _ _ (hist_alone_k1.eq_1 c)) ∧ (type_of% (@unfC _ _ (hist_alone_k2.eq_1 c)) ∧ type_of% (@unfC _ _ (hist_alone_k3.eq_1 c)))) ∧ (type_of% (@unfC _ _ (hist_alone_k4.eq_1 c)) ∧ (type_of% (@unfC _ _ (hist_alone_k5.eq_1 c)) ∧ type_of% (@unfC _ _ (hist_alone_k6.eq_1 c))))) := ⟨⟨@unfC _ _ (hist_alone_k1.eq_1 c), ⟨@unfC _ _ (hist_alone_k2.eq_1 c), @unfC _ _ (hist_alone_k3.eq_1 c)⟩⟩, ⟨@unfC _ _ (hist_alone_k4.eq_1 c), ⟨@unfC _ _ (hist_alone_k5.eq_1 c), @unfC _ _ (hist_alone_k6.eq_1 c)⟩⟩⟩
def C_hist_alone (c : Nat → FuncId) : LFn := ⟨27, [.many 2 3, .t 3], (.seq (.sq [⟨some 2, none, .alloc false [(.s (.int .i64 0)), (.s (.int .i64 0)), (.s (.int .i64 0))]⟩, ⟨some 3, none, .mv true (.c (.bool false))⟩]) (hist_alone_k6 c))⟩

-- hist_pair: 0=hist_Txn_wrote
def hist_pair_k1 (c : Nat → FuncId) : LCode := (.seq (.sq [⟨some 44, none, .mv false (.t 1)⟩, ⟨some 45, none, .mv false (.t 8)⟩, ⟨some 46, none, .mv false (.t 10)⟩, ⟨some 47, none, .build [(.s (.int .i64 0)), (.s (.int .i64 0)), (.s (.int .i64 0))] [(0, 1, (.t 44)), (1, 1, (.t 45)), (2, 1, (.t 46))]⟩, ⟨none, none, .store 3 (.t 6) (.t 47)⟩, ⟨some 7, none, .mv true (.c (.bool true))⟩]) .ret)
def hist_pair_k2 (c : Nat → FuncId) : LCode := (.sq [⟨some 24, none, .mv false (.t 10)⟩, ⟨some 25, none, .bin .add .sc (.t 24) (.c (.int .i64 1))⟩, ⟨some 10, none, .mv true (.t 25)⟩])
def hist_pair_k3 (c : Nat → FuncId) : LCode := (.seq (.block 3 (.seq (.tree (.rd ⟨some 26, none, .loadA 8 (.t 9)⟩ 0 false (.mv ⟨some 27, none, .call (.f (c 0)) [(.t 26)]⟩ [0] (.rd ⟨some 28, none, .mv false (.t 27)⟩ 2 false (.rd ⟨some 29, some (28, true), .mv false (.t 0)⟩ 3 false (.rd ⟨some 30, some (28, true), .mv false (.t 10)⟩ 4 false (.rd ⟨some 31, some (28, true), .ixa (.sl 8) (.t 29) (.t 30)⟩ 5 false (.rd ⟨some 32, some (28, true), .loadA 8 (.t 31)⟩ 6 false (.mv ⟨some 33, some (28, true), .call (.f (c 0)) [(.t 32)]⟩ [0, 1, 2, 3, 4, 5, 6] (.rd ⟨some 34, none, .pick (.t 28) (.t 33) (.c (.bool false))⟩ 8 false (.rd ⟨some 35, none, .mv false (.t 34)⟩ 9 false (.rd ⟨some 36, some (35, true), .mv false (.t 2)⟩ 10 false (.rd ⟨some 37, some (35, true), .loadA 8 (.t 9)⟩ 11 false (.rd ⟨some 38, some (35, true), .mv false (.t 0)⟩ 12 false (.rd ⟨some 39, some (35, true), .mv false (.t 10)⟩ 13 false (.rd ⟨some 40, some (35, true), .ixa (.sl 8) (.t 38) (.t 39)⟩ 14 false (.rd ⟨some 41, some (35, true), .loadA 8 (.t 40)⟩ 15 false (.mv ⟨some 42, some (35, true), .call (.t 36) [(.t 37), (.t 41)]⟩ [0, 1, 2, 3, 4, 5, 6, 7, 8, 9, 10, 11, 12, 13, 14, 15] (.rd ⟨some 43, none, .pick (.t 35) (.t 42) (.c (.bool false))⟩ 17 false .done) .stop))))))))) .stop)))))) .stop))) (.cond (.t 43) (hist_pair_k1 c) .skip))) (hist_pair_k2 c))
def hist_pair_k4 (c : Nat → FuncId) : LCode := (.seq (.seq (.sq [⟨some 20, none, .mv false (.t 10)⟩, ⟨some 21, none, .mv false (.t 0)⟩, ⟨some 22, none, .len .sl (.t 21)⟩, ⟨some 23, none, .bin .lss .sc (.t 20) (.t 22)⟩]) (.cond (.t 23) .skip (.exit 2))) (hist_pair_k3 c))
def hist_pair_k5 (c : Nat → FuncId) : LCode := (.block 2 (.loop [true, true, true, false, false, false, true, false, true, true, true, true, true, true, false, false, false, false, false, false, false, false, false, false, false, false, false, false, false, false, false, false, false, false, false, false, false, false, false, false, false, false, false, false, false, false, false, false, false, false] (hist_pair_k4 c)))
def hist_pair_k6 (c : Nat → FuncId) : LCode := (.seq (.sq [⟨some 18, none, .mv false (.t 8)⟩, ⟨some 19, none, .bin .add .sc (.t 18) (.c (.int .i64 1))⟩, ⟨some 10, none, .mv true (.t 19)⟩]) (hist_pair_k5 c))
def hist_pair_k7 (c : Nat → FuncId) : LCode := (.seq (.block 1 (.seq (.sq [⟨some 15, none, .mv false (.t 13)⟩, ⟨some 16, none, .ixa (.sl 8) (.t 11) (.t 13)⟩, ⟨some 17, none, .loadA 8 (.t 16)⟩, ⟨some 9, none, .alloc false [(.s (.int .i64 0)), (.s (.int .i64 0)), (.s (.int .u8 0)), (.s (.int .i64 0)), (.s (.int .u8 0)), (.s (.bool false)), (.s .nilS), (.s .nilS)]⟩, ⟨some 8, none, .mv true (.t 15)⟩, ⟨none, none, .store 8 (.t 9) (.t 17)⟩]) (hist_pair_k6 c))) (.sq [⟨some 48, none, .bin .add .sc (.t 13) (.c (.int .i64 1))⟩, ⟨some 13, none, .mv false (.t 48)⟩]))
def hist_pair_k8 (c : Nat → FuncId) : LCode := (.block 0 (.loop [true, true, true, false, false, false, true, false, false, false, false, true, true, true, false, false, false, false, false, false, false, false, false, false, false, false, false, false, false, false, false, false, false, false, false, false, false, false, false, false, false, false, false, false, false, false, false, false, false, false] (.seq (.sq [⟨some 14, none, .bin .lss .sc (.t 13) (.t 12)⟩]) (.seq (.cond (.t 14) .skip (.exit 0)) (hist_pair_k7 c)))))
def hist_pair_k9 (c : Nat → FuncId) : LCode := (.seq (.sq [⟨some 49, none, .build [(.s (.int .i64 0)), (.s (.int .i64 0)), (.s (.int .i64 0))] []⟩, ⟨none, none, .store 3 (.t 6) (.t 49)⟩, ⟨some 7, none, .mv true (.c (.bool false))⟩]) .ret)
def hist_pair_k10 (c : Nat → FuncId) : LCode := (.seq (.seq (.sq [⟨some 11, none, .mv false (.t 0)⟩, ⟨some 12, none, .len .sl (.t 11)⟩, ⟨some 13, none, .mv false (.c (.int .i64 0))⟩]) (hist_pair_k8 c)) (hist_pair_k9 c))
theorem U_hist_pair (c : Nat → FuncId) : (((type_of% (@unfC _ _ (hist_pair_k1.eq_1 c)) ∧ type_of% (@unfC _ _ (hist_pair_k2.eq_1 c))) ∧ (type_of% (@unfC _ _ (hist_pair_k3.eq_1 c)) ∧ (type_of% (@unfC _ _ (hist_pair_k4.eq_1 c)) ∧ type_of% (@unfC _ _ (hist_pair_k5.eq_1 c))))) ∧ ((type_of% (@unfC _ _ (hist_pair_k6.eq_1 c)) ∧ type_of% (@unfC _ _ (hist_pair_k7.eq_1 c))) ∧ (type_of% (@unfC _ _ (hist_pair_k8.eq_1 c)) ∧ (type_of% (@unfC _ _ (hist_pair_k9.eq_1 c)) ∧ type_of% (@unfC _ _ (hist_pair_k10.eq_1 c)))))) := ⟨⟨⟨@unfC _ _ (hist_pair_k1.eq_1 c), @unfC _ _ (hist_pair_k2.eq_1 c)⟩, ⟨@unfC _ _ (hist_pair_k3.eq_1 c), ⟨@unfC _ _ (hist_pair_k4.eq_1 c), @unfC _ _ (hist_pair_k5.eq_1 c)⟩⟩⟩, ⟨⟨@unfC _ _ (hist_pair_k6.eq_1 c), @unfC _ _ (hist_pair_k7.eq_1 c)⟩, ⟨@unfC _ _ (hist_pair_k8.eq_1 c), ⟨@unfC _ _ (hist_pair_k9.eq_1 c), @unfC _ _ (hist_pair_k10.eq_1 c)⟩⟩⟩⟩
def C_hist_pair (c : Nat → FuncId) : LFn := ⟨50, [.many 6 3, .t 7], (.seq (.sq [⟨some 6, none, .alloc false [(.s (.int .i64 0)), (.s (.int .i64 0)), (.s (.int .i64 0))]⟩, ⟨some 7, none, .mv true (.c (.bool false))⟩]) (hist_pair_k10 c))⟩

-- hist_Check_1: 
def hist_Check_1_k1 : LCode := (.seq (.sq [⟨some 5, none, .shift 3 (.t 2)⟩, ⟨some 6, none, .loadA 2 (.t 5)⟩, ⟨some 7, none, .shift 3 (.t 3)⟩, ⟨some 8, none, .loadA 2 (.t 7)⟩, ⟨some 9, none, .bin .eql (.leaf [.int .i64, .int .u8]) (.t 6) (.t 8)⟩, ⟨some 4, none, .mv true (.t 9)⟩]) .ret)
theorem U_hist_Check_1 : type_of% (@unfC _ _ (hist_Check_1_k1.eq_1)) := @unfC _ _ (hist_Check_1_k1.eq_1)
def C_hist_Check_1 : LFn := ⟨10, [.t 4], (.seq (.sq [⟨some 2, none, .box false false (.t 0)⟩, ⟨some 3, none, .box false false (.t 1)⟩, ⟨some 4, none, .mv true (.c (.bool false))⟩]) hist_Check_1_k1)⟩

-- hist_Check_2: 0=hist_shares 1=hist_before
def hist_Check_2_k1 (c : Nat → FuncId) : LCode := (.seq (.sq [⟨some 5, none, .loadA 8 (.t 2)⟩, ⟨some 6, none, .loadA 8 (.t 3)⟩, ⟨some 7, none, .call (.f (c 0)) [(.t 5), (.t 6)]⟩, ⟨some 8, none, .mv false (.t 7)⟩, ⟨some 9, some (8, true), .loadA 8 (.t 2)⟩, ⟨some 10, some (8, true), .loadA 8 (.t 3)⟩, ⟨some 11, some (8, true), .call (.f (c 1)) [(.t 9), (.t 10)]⟩, ⟨some 12, some (8, true), .un .not (.t 11)⟩, ⟨some 13, none, .pick (.t 8) (.t 12) (.c (.bool false))⟩, ⟨some 14, none, .mv false (.t 13)⟩, ⟨some 15, some (14, true), .loadA 8 (.t 3)⟩, ⟨some 16, some (14, true), .loadA 8 (.t 2)⟩, ⟨some 17, some (14, true), .call (.f (c 1)) [(.t 15), (.t 16)]⟩, ⟨some 18, some (14, true), .un .not (.t 17)⟩, ⟨some 19, none, .pick (.t 14) (.t 18) (.c (.bool false))⟩, ⟨some 4, none, .mv true (.t 19)⟩]) .ret)
theorem U_hist_Check_2 (c : Nat → FuncId) : type_of% (@unfC _ _ (hist_Check_2_k1.eq_1 c)) := @unfC _ _ (hist_Check_2_k1.eq_1 c)
def C_hist_Check_2 (c : Nat → FuncId) : LFn := ⟨20, [.t 4], (.seq (.sq [⟨some 2, none, .box false false (.t 0)⟩, ⟨some 3, none, .box false false (.t 1)⟩, ⟨some 4, none, .mv true (.c (.bool false))⟩]) (hist_Check_2_k1 c))⟩

-- hist_shares: 0=hist_shares_1 1=slices_ContainsFunc_Write
def hist_shares_k1 (c : Nat → FuncId) : LCode := (.seq (.sq [⟨some 5, none, .shift 7 (.t 2)⟩, ⟨some 6, none, .load1 false (.t 5)⟩, ⟨some 7, none, .mkfn (c 0) [] [(.t 3)]⟩, ⟨some 8, none, .call (.f (c 1)) [(.t 6), (.t 7)]⟩, ⟨some 4, none, .mv true (.t 8)⟩]) .ret)
theorem U_hist_shares (c : Nat → FuncId) : type_of% (@unfC _ _ (hist_shares_k1.eq_1 c)) := @unfC _ _ (hist_shares_k1.eq_1 c)
def C_hist_shares (c : Nat → FuncId) : LFn := ⟨9, [.t 4], (.seq (.sq [⟨some 2, none, .box false false (.t 0)⟩, ⟨some 3, none, .box false false (.t 1)⟩, ⟨some 4, none, .mv true (.c (.bool false))⟩]) (hist_shares_k1 c))⟩

-- hist_before: 0=stamp_Cmp
def hist_before_k1 (c : Nat → FuncId) : LCode := (.seq (.sq [⟨some 5, none, .shift 3 (.t 2)⟩, ⟨some 6, none, .loadA 2 (.t 5)⟩, ⟨some 7, none, .shift 1 (.t 3)⟩, ⟨some 8, none, .loadA 2 (.t 7)⟩, ⟨some 9, none, .call (.f (c 0)) [(.t 6), (.t 8)]⟩, ⟨some 10, none, .bin .leq .sc (.t 9) (.c (.int .i64 0))⟩, ⟨some 4, none, .mv true (.t 10)⟩]) .ret)
theorem U_hist_before (c : Nat → FuncId) : type_of% (@unfC _ _ (hist_before_k1.eq_1 c)) := @unfC _ _ (hist_before_k1.eq_1 c)
def C_hist_before (c : Nat → FuncId) : LFn := ⟨11, [.t 4], (.seq (.sq [⟨some 2, none, .box false false (.t 0)⟩, ⟨some 3, none, .box false false (.t 1)⟩, ⟨some 4, none, .mv true (.c (.bool false))⟩]) (hist_before_k1 c))⟩

-- hist_reads: 0=hist_Txn_last 1=hist_Value
def hist_reads_k1 (c : Nat → FuncId) : LCode := (.seq (.sq [⟨some 53, none, .mv false (.t 4)⟩, ⟨some 54, none, .build [(.s (.int .i64 0)), (.s (.int .i64 0)), (.s (.int .i64 0))] [(0, 1, (.c (.int .i64 4))), (1, 1, (.t 53)), (2, 1, (.c (.int .i64 (-1))))]⟩, ⟨none, none, .store 3 (.t 2) (.t 54)⟩, ⟨some 3, none, .mv true (.c (.bool true))⟩]) .ret)
def hist_reads_k2 (c : Nat → FuncId) : LCode := (.seq (.sq [⟨some 43, none, .mv false (.t 10)⟩, ⟨some 44, none, .shift 16 (.t 7)⟩, ⟨some 45, none, .load1 false (.t 44)⟩, ⟨some 46, none, .bin .neq .sc (.t 43) (.t 45)⟩, ⟨some 47, none, .mv false (.t 46)⟩, ⟨some 48, some (47, false), .mv false (.t 11)⟩, ⟨some 49, some (47, false), .shift 17 (.t 7)⟩, ⟨some 50, some (47, false), .load1 false (.t 49)⟩, ⟨some 51, some (47, false), .bin .neq .bl (.t 48) (.t 50)⟩, ⟨some 52, none, .pick (.t 47) (.c (.bool true)) (.t 51)⟩]) (.cond (.t 52) (hist_reads_k1 c) .skip))
def hist_reads_k3 (c : Nat → FuncId) : LCode := (.seq (.sq [⟨some 35, none, .mv false (.t 0)⟩, ⟨some 36, none, .shift 0 (.t 7)⟩, ⟨some 37, none, .loadA 16 (.t 36)⟩, ⟨some 38, none, .shift 1 (.t 5)⟩, ⟨some 39, none, .loadA 2 (.t 38)⟩, ⟨some 40, none, .call (.f (c 1)) [(.t 35), (.t 37), (.t 39)]⟩, ⟨some 34, none, .mv false (.t 40)⟩, ⟨some 41, none, .ext (.t 34) 0⟩, ⟨some 42, none, .ext (.t 34) 1⟩, ⟨some 10, none, .mv true (.t 41)⟩, ⟨some 11, none, .mv true (.t 42)⟩]) (hist_reads_k2 c))
def hist_reads_k4 (c : Nat → FuncId) : LCode := (.seq (.seq (.sq [⟨some 27, none, .loadA 8 (.t 5)⟩, ⟨some 28, none, .shift 0 (.t 7)⟩, ⟨some 29, none, .loadA 16 (.t 28)⟩, ⟨some 30, none, .call (.f (c 0)) [(.t 27), (.t 29)]⟩, ⟨some 26, none, .mv false (.t 30)⟩, ⟨some 31, none, .ext (.t 26) 0⟩, ⟨some 32, none, .ext (.t 26) 1⟩, ⟨some 8, none, .alloc false (zk ++ [(.s (.str [])), (.s (.bool false))])⟩, ⟨none, none, .store 18 (.t 8) (.t 31)⟩, ⟨some 9, none, .mv true (.t 32)⟩]) (.seq (.sq [⟨some 33, none, .mv false (.t 9)⟩]) (.cond (.t 33) (.exit 3) .skip))) (hist_reads_k3 c))
def hist_reads_k5 (c : Nat → FuncId) : LCode := (.seq (.block 3 (.seq (.sq [⟨some 24, none, .ixa (.sl 18) (.t 20) (.t 22)⟩, ⟨some 25, none, .loadA 18 (.t 24)⟩, ⟨some 7, none, .alloc false (zk ++ [(.s (.str [])), (.s (.bool false))])⟩, ⟨none, none, .store 18 (.t 7) (.t 25)⟩]) (hist_reads_k4 c))) (.sq [⟨some 55, none, .bin .add .sc (.t 22) (.c (.int .i64 1))⟩, ⟨some 22, none, .mv false (.t 55)⟩]))
def hist_reads_k6 (c : Nat → FuncId) : LCode := (.block 2 (.loop [true, false, true, false, true, true, false, false, false, false, false, false, true, true, true, false, false, false, false, false, true, true, true, false, false, false, false, false, false, false, false, false, false, false, false, false, false, false, false, false, false, false, false, false, false, false, false, false, false, false, false, false, false, false, false, false, false, false] (.seq (.sq [⟨some 23, none, .bin .lss .sc (.t 22) (.t 21)⟩]) (.seq (.cond (.t 23) .skip (.exit 2)) (hist_reads_k5 c)))))
def hist_reads_k7 (c : Nat → FuncId) : LCode := (.seq (.sq [⟨some 19, none, .shift 6 (.t 5)⟩, ⟨some 20, none, .load1 false (.t 19)⟩, ⟨some 21, none, .len .sl (.t 20)⟩, ⟨some 22, none, .mv false (.c (.int .i64 0))⟩]) (hist_reads_k6 c))
def hist_reads_k8 (c : Nat → FuncId) : LCode := (.seq (.block 1 (.seq (.sq [⟨some 16, none, .mv false (.t 14)⟩, ⟨some 17, none, .ixa (.sl 8) (.t 12) (.t 14)⟩, ⟨some 18, none, .loadA 8 (.t 17)⟩, ⟨some 5, none, .alloc false [(.s (.int .i64 0)), (.s (.int .i64 0)), (.s (.int .u8 0)), (.s (.int .i64 0)), (.s (.int .u8 0)), (.s (.bool false)), (.s .nilS), (.s .nilS)]⟩, ⟨some 4, none, .mv true (.t 16)⟩, ⟨none, none, .store 8 (.t 5) (.t 18)⟩]) (hist_reads_k7 c))) (.sq [⟨some 56, none, .bin .add .sc (.t 14) (.c (.int .i64 1))⟩, ⟨some 14, none, .mv false (.t 56)⟩]))
def hist_reads_k9 (c : Nat → FuncId) : LCode := (.block 0 (.loop [true, false, true, false, false, false, false, false, false, false, false, false, true, true, true, false, false, false, false, false, false, false, false, false, false, false, false, false, false, false, false, false, false, false, false, false, false, false, false, false, false, false, false, false, false, false, false, false, false, false, false, false, false, false, false, false, false, false] (.seq (.sq [⟨some 15, none, .bin .lss .sc (.t 14) (.t 13)⟩]) (.seq (.cond (.t 15) .skip (.exit 0)) (hist_reads_k8 c)))))
def hist_reads_k10 (c : Nat → FuncId) : LCode := (.seq (.sq [⟨some 57, none, .build [(.s (.int .i64 0)), (.s (.int .i64 0)), (.s (.int .i64 0))] []⟩, ⟨none, none, .store 3 (.t 2) (.t 57)⟩, ⟨some 3, none, .mv true (.c (.bool false))⟩]) .ret)
def hist_reads_k11 (c : Nat → FuncId) : LCode := (.seq (.seq (.sq [⟨some 12, none, .mv false (.t 0)⟩, ⟨some 13, none, .len .sl (.t 12)⟩, ⟨some 14, none, .mv false (.c (.int .i64 0))⟩]) (hist_reads_k9 c)) (hist_reads_k10 c))
theorem U_hist_reads (c : Nat → FuncId) : (((type_of% (@unfC _ _ (hist_reads_k1.eq_1 c)) ∧ type_of% (@unfC _ _ (hist_reads_k2.eq_1 c))) ∧ (type_of% (@unfC _ _ (hist_reads_k3.eq_1 c)) ∧ (type_of% (@unfC _ _ (hist_reads_k4.eq_1 c)) ∧ type_of% (@unfC _ _ (hist_reads_k5.eq_1 c))))) ∧ ((type_of% (@unfC _ _ (hist_reads_k6.eq_1 c)) ∧ (type_of% (@unfC _ _ (hist_reads_k7.eq_1 c)) ∧ type_of% (@unfC _ _ (hist_reads_k8.eq_1 c)))) ∧ (type_of% (@unfC _ _ (hist_reads_k9.eq_1 c)) ∧ (type_of% (@unfC _ _ (hist_reads_k10.eq_1 c)) ∧ type_of% (@unfC _ _ (hist_reads_k11.eq_1 c)))))) := ⟨⟨⟨@unfC _ _ (hist_reads_k1.eq_1 c), @unfC _ _ (hist_reads_k2.eq_1 c)⟩, ⟨@unfC _ _ (hist_reads_k3.eq_1 c), ⟨@unfC _ _ (hist_reads_k4.eq_1 c), @unfC _ _ (hist_reads_k5.eq_1 c)⟩⟩⟩, ⟨⟨@unfC _ _ (hist_reads_k6.eq_1 c), ⟨@unfC _ _ (hist_reads_k7.eq_1 c), @unfC _ _ (hist_reads_k8.eq_1 c)⟩⟩, ⟨@unfC _ _ (hist_reads_k9.eq_1 c), ⟨@unfC _ _ (hist_reads_k10.eq_1 c), @unfC _ _ (hist_reads_k11.eq_1 c)⟩⟩⟩⟩
def C_hist_reads (c : Nat → FuncId) : LFn := ⟨58, [.many 2 3, .t 3], (.seq (.sq [⟨some 2, none, .alloc false [(.s (.int .i64 0)), (.s (.int .i64 0)), (.s (.int .i64 0))]⟩, ⟨some 3, none, .mv true (.c (.bool false))⟩]) (hist_reads_k11 c))⟩

-- hist_Txn_wrote: 
def hist_Txn_wrote_k1 : LCode := (.seq (.sq [⟨some 3, none, .shift 5 (.t 1)⟩, ⟨some 4, none, .load1 false (.t 3)⟩, ⟨some 5, none, .mv false (.t 4)⟩, ⟨some 6, some (5, true), .shift 7 (.t 1)⟩, ⟨some 7, some (5, true), .load1 false (.t 6)⟩, ⟨some 8, some (5, true), .len .sl (.t 7)⟩, ⟨some 9, some (5, true), .bin .gtr .sc (.t 8) (.c (.int .i64 0))⟩, ⟨some 10, none, .pick (.t 5) (.t 9) (.c (.bool false))⟩, ⟨some 2, none, .mv true (.t 10)⟩]) .ret)
theorem U_hist_Txn_wrote : type_of% (@unfC _ _ (hist_Txn_wrote_k1.eq_1)) := @unfC _ _ (hist_Txn_wrote_k1.eq_1)
def C_hist_Txn_wrote : LFn := ⟨11, [.t 2], (.seq (.sq [⟨some 1, none, .box false false (.t 0)⟩, ⟨some 2, none, .mv true (.c (.bool false))⟩]) hist_Txn_wrote_k1)⟩

-- hist_shares_1: 0=hist_Txn_last
def hist_shares_1_k1 (c : Nat → FuncId) : LCode := (.seq (.sq [⟨some 7, none, .loadA 8 (.t 1)⟩, ⟨some 8, none, .shift 0 (.t 2)⟩, ⟨some 9, none, .loadA 16 (.t 8)⟩, ⟨some 10, none, .call (.f (c 0)) [(.t 7), (.t 9)]⟩, ⟨some 6, none, .mv false (.t 10)⟩, ⟨some 11, none, .ext (.t 6) 0⟩, ⟨some 12, none, .ext (.t 6) 1⟩, ⟨some 4, none, .alloc false (zk ++ [(.s (.str [])), (.s (.bool false))])⟩, ⟨none, none, .store 18 (.t 4) (.t 11)⟩, ⟨some 5, none, .mv true (.t 12)⟩]) (.seq (.sq [⟨some 13, none, .mv false (.t 5)⟩, ⟨some 3, none, .mv true (.t 13)⟩]) .ret))
theorem U_hist_shares_1 (c : Nat → FuncId) : type_of% (@unfC _ _ (hist_shares_1_k1.eq_1 c)) := @unfC _ _ (hist_shares_1_k1.eq_1 c)
def C_hist_shares_1 (c : Nat → FuncId) : LFn := ⟨14, [.t 3], (.seq (.sq [⟨some 2, none, .box false false (.t 0)⟩, ⟨some 3, none, .mv true (.c (.bool false))⟩]) (hist_shares_1_k1 c))⟩

-- hist_Check: 0=hist_alone 1=hist_pair 2=hist_Check_1 3=hist_Check_2 4=hist_reads
def hist_Check_k1 (c : Nat → FuncId) : LCode := (.seq (.sq [⟨some 16, none, .mv false (.t 4)⟩]) (.cond (.t 16) (.seq (.sq [⟨some 17, none, .loadA 3 (.t 3)⟩, ⟨none, none, .store 3 (.t 2) (.t 17)⟩]) .ret) .skip))
def hist_Check_k2 (c : Nat → FuncId) : LCode := (.seq (.sq [⟨some 23, none, .mv false (.t 6)⟩]) (.cond (.t 23) (.seq (.sq [⟨some 24, none, .loadA 3 (.t 5)⟩, ⟨none, none, .store 3 (.t 2) (.t 24)⟩]) .ret) .skip))
def hist_Check_k3 (c : Nat → FuncId) : LCode := (.seq (.sq [⟨some 30, none, .mv false (.t 8)⟩]) (.cond (.t 30) (.seq (.sq [⟨some 31, none, .loadA 3 (.t 7)⟩, ⟨none, none, .store 3 (.t 2) (.t 31)⟩]) .ret) .skip))
def hist_Check_k4 (c : Nat → FuncId) : LCode := (.seq (.sq [⟨some 37, none, .mv false (.t 10)⟩]) (.cond (.t 37) (.seq (.sq [⟨some 38, none, .loadA 3 (.t 9)⟩, ⟨none, none, .store 3 (.t 2) (.t 38)⟩]) .ret) .skip))
def hist_Check_k5 (c : Nat → FuncId) : LCode := (.seq (.sq [⟨some 39, none, .build [(.s (.int .i64 0)), (.s (.int .i64 0)), (.s (.int .i64 0))] [(0, 1, (.c (.int .i64 0))), (1, 1, (.c (.int .i64 (-1)))), (2, 1, (.c (.int .i64 (-1))))]⟩, ⟨none, none, .store 3 (.t 2) (.t 39)⟩]) .ret)
def hist_Check_k6 (c : Nat → FuncId) : LCode := (.seq (.seq (.sq [⟨some 33, none, .mv true (.t 0)⟩, ⟨some 34, none, .call (.f (c 4)) [(.t 33)]⟩, ⟨some 32, none, .mv false (.t 34)⟩, ⟨some 35, none, .ext (.t 32) 0⟩, ⟨some 36, none, .ext (.t 32) 1⟩, ⟨some 9, none, .alloc false [(.s (.int .i64 0)), (.s (.int .i64 0)), (.s (.int .i64 0))]⟩, ⟨none, none, .store 3 (.t 9) (.t 35)⟩, ⟨some 10, none, .mv true (.t 36)⟩]) (hist_Check_k4 c)) (hist_Check_k5 c))
def hist_Check_k7 (c : Nat → FuncId) : LCode := (.seq (.seq (.sq [⟨some 26, none, .mv false (.t 0)⟩, ⟨some 27, none, .call (.f (c 1)) [(.t 26), (.c (.int .i64 3)), (.f (c 3))]⟩, ⟨some 25, none, .mv false (.t 27)⟩, ⟨some 28, none, .ext (.t 25) 0⟩, ⟨some 29, none, .ext (.t 25) 1⟩, ⟨some 7, none, .alloc false [(.s (.int .i64 0)), (.s (.int .i64 0)), (.s (.int .i64 0))]⟩, ⟨none, none, .store 3 (.t 7) (.t 28)⟩, ⟨some 8, none, .mv true (.t 29)⟩]) (hist_Check_k3 c)) (hist_Check_k6 c))
def hist_Check_k8 (c : Nat → FuncId) : LCode := (.seq (.seq (.sq [⟨some 19, none, .mv false (.t 0)⟩, ⟨some 20, none, .call (.f (c 1)) [(.t 19), (.c (.int .i64 2)), (.f (c 2))]⟩, ⟨some 18, none, .mv false (.t 20)⟩, ⟨some 21, none, .ext (.t 18) 0⟩, ⟨some 22, none, .ext (.t 18) 1⟩, ⟨some 5, none, .alloc false [(.s (.int .i64 0)), (.s (.int .i64 0)), (.s (.int .i64 0))]⟩, ⟨none, none, .store 3 (.t 5) (.t 21)⟩, ⟨some 6, none, .mv true (.t 22)⟩]) (hist_Check_k2 c)) (hist_Check_k7 c))
def hist_Check_k9 (c : Nat → FuncId) : LCode := (.seq (.seq (.sq [⟨some 12, none, .mv false (.t 0)⟩, ⟨some 13, none, .call (.f (c 0)) [(.t 12)]⟩, ⟨some 11, none, .mv false (.t 13)⟩, ⟨some 14, none, .ext (.t 11) 0⟩, ⟨some 15, none, .ext (.t 11) 1⟩, ⟨some 3, none, .alloc false [(.s (.int .i64 0)), (.s (.int .i64 0)), (.s (.int .i64 0))]⟩, ⟨none, none, .store 3 (.t 3) (.t 14)⟩, ⟨some 4, none, .mv true (.t 15)⟩]) (hist_Check_k1 c)) (hist_Check_k8 c))
theorem U_hist_Check (c : Nat → FuncId) : (((type_of% (@unfC _ _ (hist_Check_k1.eq_1 c)) ∧ type_of% (@unfC _ _ (hist_Check_k2.eq_1 c))) ∧ (type_of% (@unfC _ _ (hist_Check_k3.eq_1 c)) ∧ type_of% (@unfC _ _ (hist_Check_k4.eq_1 c)))) ∧ ((type_of% (@unfC _ _ (hist_Check_k5.eq_1 c)) ∧ type_of% (@unfC _ _ (hist_Check_k6.eq_1 c))) ∧ (type_of% (@unfC _ _ (hist_Check_k7.eq_1 c)) ∧ (type_of% (@unfC _ _ (hist_Check_k8.eq_1 c)) ∧ type_of% (@unfC _ _ (hist_Check_k9.eq_1 c)))))) := ⟨⟨⟨@unfC _ _ (hist_Check_k1.eq_1 c), @unfC _ _ (hist_Check_k2.eq_1 c)⟩, ⟨@unfC _ _ (hist_Check_k3.eq_1 c), @unfC _ _ (hist_Check_k4.eq_1 c)⟩⟩, ⟨⟨@unfC _ _ (hist_Check_k5.eq_1 c), @unfC _ _ (hist_Check_k6.eq_1 c)⟩, ⟨@unfC _ _ (hist_Check_k7.eq_1 c), ⟨@unfC _ _ (hist_Check_k8.eq_1 c), @unfC _ _ (hist_Check_k9.eq_1 c)⟩⟩⟩⟩
def C_hist_Check (c : Nat → FuncId) : LFn := ⟨40, [.many 2 3], (.seq (.sq [⟨some 2, none, .alloc false [(.s (.int .i64 0)), (.s (.int .i64 0)), (.s (.int .i64 0))]⟩]) (hist_Check_k9 c))⟩

-- slices_ContainsFunc_Write: 0=slices_IndexFunc_Write
def slices_ContainsFunc_Write_k1 (c : Nat → FuncId) : LCode := (.seq (.sq [⟨some 5, none, .mv true (.t 0)⟩, ⟨some 6, none, .mv false (.t 1)⟩, ⟨some 7, none, .call (.f (c 0)) [(.t 5), (.t 6)]⟩, ⟨some 8, none, .bin .geq .sc (.t 7) (.c (.int .i64 0))⟩, ⟨some 4, none, .mv true (.t 8)⟩]) .ret)
theorem U_slices_ContainsFunc_Write (c : Nat → FuncId) : type_of% (@unfC _ _ (slices_ContainsFunc_Write_k1.eq_1 c)) := @unfC _ _ (slices_ContainsFunc_Write_k1.eq_1 c)
def C_slices_ContainsFunc_Write (c : Nat → FuncId) : LFn := ⟨9, [.t 4], (.seq (.sq [⟨some 4, none, .mv true (.c (.bool false))⟩]) (slices_ContainsFunc_Write_k1 c))⟩

-- slices_IndexFunc_Write: 
def slices_IndexFunc_Write_k1 : LCode := (.cond (.t 16) (.seq (.sq [⟨some 17, none, .mv false (.t 5)⟩, ⟨some 4, none, .mv true (.t 17)⟩]) .ret) .skip)
def slices_IndexFunc_Write_k2 : LCode := (.seq (.sq [⟨some 11, none, .mv false (.t 1)⟩, ⟨some 12, none, .mv false (.t 0)⟩, ⟨some 13, none, .mv false (.t 5)⟩, ⟨some 14, none, .ixa (.sl 18) (.t 12) (.t 13)⟩, ⟨some 15, none, .loadA 18 (.t 14)⟩, ⟨some 16, none, .call (.t 11) [(.t 15)]⟩]) slices_IndexFunc_Write_k1)
def slices_IndexFunc_Write_k3 : LCode := (.seq (.block 1 (.seq (.sq [⟨some 10, none, .mv false (.t 8)⟩, ⟨some 5, none, .mv true (.t 10)⟩]) slices_IndexFunc_Write_k2)) (.sq [⟨some 18, none, .bin .add .sc (.t 8) (.c (.int .i64 1))⟩, ⟨some 8, none, .mv false (.t 18)⟩]))
def slices_IndexFunc_Write_k4 : LCode := (.seq (.sq [⟨some 9, none, .bin .lss .sc (.t 8) (.t 7)⟩]) (.seq (.cond (.t 9) .skip (.exit 0)) slices_IndexFunc_Write_k3))
def slices_IndexFunc_Write_k5 : LCode := (.block 0 (.loop [true, true, false, false, false, false, false, true, true, false, false, false, false, false, false, false, false, false, false] slices_IndexFunc_Write_k4))
def slices_IndexFunc_Write_k6 : LCode := (.seq (.seq (.sq [⟨some 6, none, .mv false (.t 0)⟩, ⟨some 7, none, .len .sl (.t 6)⟩, ⟨some 8, none, .mv false (.c (.int .i64 0))⟩]) slices_IndexFunc_Write_k5) (.seq (.sq [⟨some 4, none, .mv true (.c (.int .i64 (-1)))⟩]) .ret))
theorem U_slices_IndexFunc_Write : ((type_of% (@unfC _ _ (slices_IndexFunc_Write_k1.eq_1)) ∧ (type_of% (@unfC _ _ (slices_IndexFunc_Write_k2.eq_1)) ∧ type_of% (@unfC _ _ (slices_IndexFunc_Write_k3.eq_1)))) ∧ (type_of% (@unfC _ _ (slices_IndexFunc_Write_k4.eq_1)) ∧ (type_of% (@unfC _ _ (slices_IndexFunc_Write_k5.eq_1)) ∧ type_of% (@unfC _ _ (slices_IndexFunc_Write_k6.eq_1))))) := ⟨⟨@unfC _ _ (slices_IndexFunc_Write_k1.eq_1), ⟨@unfC _ _ (slices_IndexFunc_Write_k2.eq_1), @unfC _ _ (slices_IndexFunc_Write_k3.eq_1)⟩⟩, ⟨@unfC _ _ (slices_IndexFunc_Write_k4.eq_1), ⟨@unfC _ _ (slices_IndexFunc_Write_k5.eq_1), @unfC _ _ (slices_IndexFunc_Write_k6.eq_1)⟩⟩⟩
def C_slices_IndexFunc_Write : LFn := ⟨19, [.t 4], (.seq (.sq [⟨some 4, none, .mv true (.c (.int .i64 0))⟩]) slices_IndexFunc_Write_k6)⟩

-- slices_Backward_Write: 0=slices_Backward_Write_1
def C_slices_Backward_Write (c : Nat → FuncId) : LFn := ⟨4, [.t 2], (.seq (.sq [⟨some 1, none, .box true true (.t 0)⟩, ⟨some 2, none, .mv true (.c .nilF)⟩]) (.seq (.sq [⟨some 3, none, .mkfn (c 0) [] [(.t 1)]⟩, ⟨some 2, none, .mv true (.t 3)⟩]) .ret))⟩

-- slices_Backward_Write_1: 
def slices_Backward_Write_1_k1 : LCode := (.sq [⟨some 9, none, .mv false (.t 3)⟩, ⟨some 10, none, .bin .sub .sc (.t 9) (.c (.int .i64 1))⟩, ⟨some 3, none, .mv true (.t 10)⟩])
def slices_Backward_Write_1_k2 : LCode := (.seq (.block 1 (.seq (.sq [⟨some 11, none, .mv false (.t 0)⟩, ⟨some 12, none, .mv false (.t 3)⟩, ⟨some 13, none, .load1 false (.t 1)⟩, ⟨some 14, none, .mv false (.t 3)⟩, ⟨some 15, none, .ixa (.sl 18) (.t 13) (.t 14)⟩, ⟨some 16, none, .loadA 18 (.t 15)⟩, ⟨some 17, none, .call (.t 11) [(.t 12), (.t 16)]⟩, ⟨some 18, none, .un .not (.t 17)⟩]) (.cond (.t 18) .ret .skip))) slices_Backward_Write_1_k1)
def slices_Backward_Write_1_k3 : LCode := (.seq (.seq (.sq [⟨some 7, none, .mv false (.t 3)⟩, ⟨some 8, none, .bin .geq .sc (.t 7) (.c (.int .i64 0))⟩]) (.cond (.t 8) .skip (.exit 0))) slices_Backward_Write_1_k2)
def slices_Backward_Write_1_k4 : LCode := (.block 0 (.loop [true, true, false, true, false, false, false, false, false, false, false, false, false, false, false, false, false, false, false] slices_Backward_Write_1_k3))
theorem U_slices_Backward_Write_1 : ((type_of% (@unfC _ _ (slices_Backward_Write_1_k1.eq_1)) ∧ type_of% (@unfC _ _ (slices_Backward_Write_1_k2.eq_1))) ∧ (type_of% (@unfC _ _ (slices_Backward_Write_1_k3.eq_1)) ∧ type_of% (@unfC _ _ (slices_Backward_Write_1_k4.eq_1)))) := ⟨⟨@unfC _ _ (slices_Backward_Write_1_k1.eq_1), @unfC _ _ (slices_Backward_Write_1_k2.eq_1)⟩, ⟨@unfC _ _ (slices_Backward_Write_1_k3.eq_1), @unfC _ _ (slices_Backward_Write_1_k4.eq_1)⟩⟩
def C_slices_Backward_Write_1 : LFn := ⟨19, [], (.seq (.sq [⟨some 4, none, .load1 false (.t 1)⟩, ⟨some 5, none, .len .sl (.t 4)⟩, ⟨some 6, none, .bin .sub .sc (.t 5) (.c (.int .i64 1))⟩, ⟨some 3, none, .mv true (.t 6)⟩]) slices_Backward_Write_1_k4)⟩

-- hourglassref23_common: 0=hourglassref23_last
def hourglassref23_common_k1 (c : Nat → FuncId) : LCode := (.seq (.sq [⟨some 24, none, .mv false (.t 7)⟩]) (.cond (.t 24) (.seq (.sq [⟨some 4, none, .mv true (.c (.bool true))⟩]) .ret) .skip))
def hourglassref23_common_k2 (c : Nat → FuncId) : LCode := (.sq [⟨some 12, none, .mv false (.t 5)⟩, ⟨some 13, none, .bin .add .sc (.t 12) (.c (.int .i64 1))⟩, ⟨some 5, none, .mv true (.t 13)⟩])
def hourglassref23_common_k3 (c : Nat → FuncId) : LCode := (.seq (.block 1 (.seq (.sq [⟨some 15, none, .mv false (.t 1)⟩, ⟨some 16, none, .mv false (.t 0)⟩, ⟨some 17, none, .mv false (.t 5)⟩, ⟨some 18, none, .ixa (.sl 18) (.t 16) (.t 17)⟩, ⟨some 19, none, .shift 0 (.t 18)⟩, ⟨some 20, none, .loadA 16 (.t 19)⟩, ⟨some 21, none, .call (.f (c 0)) [(.t 15), (.t 20)]⟩, ⟨some 14, none, .mv false (.t 21)⟩, ⟨some 22, none, .ext (.t 14) 0⟩, ⟨some 23, none, .ext (.t 14) 1⟩, ⟨some 6, none, .alloc false (zk ++ [(.s (.str [])), (.s (.bool false))])⟩, ⟨none, none, .store 18 (.t 6) (.t 22)⟩, ⟨some 7, none, .mv true (.t 23)⟩]) (hourglassref23_common_k1 c))) (hourglassref23_common_k2 c))
def hourglassref23_common_k4 (c : Nat → FuncId) : LCode := (.seq (.seq (.sq [⟨some 8, none, .mv false (.t 5)⟩, ⟨some 9, none, .mv false (.t 0)⟩, ⟨some 10, none, .len .sl (.t 9)⟩, ⟨some 11, none, .bin .lss .sc (.t 8) (.t 10)⟩]) (.cond (.t 11) .skip (.exit 0))) (hourglassref23_common_k3 c))
def hourglassref23_common_k5 (c : Nat → FuncId) : LCode := (.block 0 (.loop [true, true, false, false, false, true, false, false, false, false, false, false, false, false, false, false, false, false, false, false, false, false, false, false, false] (hourglassref23_common_k4 c)))
def hourglassref23_common_k6 (c : Nat → FuncId) : LCode := (.seq (.seq (.sq [⟨some 5, none, .mv true (.c (.int .i64 0))⟩]) (hourglassref23_common_k5 c)) (.seq (.sq [⟨some 4, none, .mv true (.c (.bool false))⟩]) .ret))
theorem U_hourglassref23_common (c : Nat → FuncId) : ((type_of% (@unfC _ _ (hourglassref23_common_k1.eq_1 c)) ∧ (type_of% (@unfC _ _ (hourglassref23_common_k2.eq_1 c)) ∧ type_of% (@unfC _ _ (hourglassref23_common_k3.eq_1 c)))) ∧ (type_of% (@unfC _ _ (hourglassref23_common_k4.eq_1 c)) ∧ (type_of% (@unfC _ _ (hourglassref23_common_k5.eq_1 c)) ∧ type_of% (@unfC _ _ (hourglassref23_common_k6.eq_1 c))))) := ⟨⟨@unfC _ _ (hourglassref23_common_k1.eq_1 c), ⟨@unfC _ _ (hourglassref23_common_k2.eq_1 c), @unfC _ _ (hourglassref23_common_k3.eq_1 c)⟩⟩, ⟨@unfC _ _ (hourglassref23_common_k4.eq_1 c), ⟨@unfC _ _ (hourglassref23_common_k5.eq_1 c), @unfC _ _ (hourglassref23_common_k6.eq_1 c)⟩⟩⟩
def C_hourglassref23_common (c : Nat → FuncId) : LFn := ⟨25, [.t 4], (.seq (.sq [⟨some 4, none, .mv true (.c (.bool false))⟩]) (hourglassref23_common_k6 c))⟩

-- hourglassref23_last: 
def hourglassref23_last_k1 : LCode := (.seq (.sq [⟨some 21, none, .mv false (.t 0)⟩, ⟨some 22, none, .mv false (.t 6)⟩, ⟨some 23, none, .ixa (.sl 18) (.t 21) (.t 22)⟩, ⟨some 24, none, .loadA 18 (.t 23)⟩, ⟨none, none, .store 18 (.t 4) (.t 24)⟩, ⟨some 5, none, .mv true (.c (.bool true))⟩]) .ret)
def hourglassref23_last_k2 : LCode := (.sq [⟨some 12, none, .mv false (.t 6)⟩, ⟨some 13, none, .bin .sub .sc (.t 12) (.c (.int .i64 1))⟩, ⟨some 6, none, .mv true (.t 13)⟩])
def hourglassref23_last_k3 : LCode := (.seq (.block 1 (.seq (.tree (.rd ⟨some 14, none, .mv false (.t 0)⟩ 0 false (.rd ⟨some 15, none, .mv false (.t 6)⟩ 1 false (.rd ⟨some 16, none, .ixa (.sl 18) (.t 14) (.t 15)⟩ 2 false (.rd ⟨some 17, none, .shift 0 (.t 16)⟩ 3 false (.rd ⟨some 18, none, .loadA 16 (.t 17)⟩ 4 false (.rd ⟨some 19, none, .loadA 16 (.t 3)⟩ 5 false (.rd ⟨some 20, none, .bin .eql (.leaf lk) (.t 18) (.t 19)⟩ 6 false .done)))))))) (.cond (.t 20) hourglassref23_last_k1 .skip))) hourglassref23_last_k2)
def hourglassref23_last_k4 : LCode := (.seq (.seq (.sq [⟨some 10, none, .mv false (.t 6)⟩, ⟨some 11, none, .bin .geq .sc (.t 10) (.c (.int .i64 0))⟩]) (.cond (.t 11) .skip (.exit 0))) hourglassref23_last_k3)
def hourglassref23_last_k5 : LCode := (.block 0 (.loop [true, false, false, true, true, false, true, false, false, false, false, false, false, false, false, false, false, false, false, false, false, false, false, false, false, false] hourglassref23_last_k4))
def hourglassref23_last_k6 : LCode := (.seq (.sq [⟨some 25, none, .build (zk ++ [(.s (.str [])), (.s (.bool false))]) []⟩, ⟨none, none, .store 18 (.t 4) (.t 25)⟩, ⟨some 5, none, .mv true (.c (.bool false))⟩]) .ret)
def hourglassref23_last_k7 : LCode := (.seq (.seq (.sq [⟨some 7, none, .mv false (.t 0)⟩, ⟨some 8, none, .len .sl (.t 7)⟩, ⟨some 9, none, .bin .sub .sc (.t 8) (.c (.int .i64 1))⟩, ⟨some 6, none, .mv true (.t 9)⟩]) hourglassref23_last_k5) hourglassref23_last_k6)
theorem U_hourglassref23_last : ((type_of% (@unfC _ _ (hourglassref23_last_k1.eq_1)) ∧ (type_of% (@unfC _ _ (hourglassref23_last_k2.eq_1)) ∧ type_of% (@unfC _ _ (hourglassref23_last_k3.eq_1)))) ∧ ((type_of% (@unfC _ _ (hourglassref23_last_k4.eq_1)) ∧ type_of% (@unfC _ _ (hourglassref23_last_k5.eq_1))) ∧ (type_of% (@unfC _ _ (hourglassref23_last_k6.eq_1)) ∧ type_of% (@unfC _ _ (hourglassref23_last_k7.eq_1))))) := ⟨⟨@unfC _ _ (hourglassref23_last_k1.eq_1), ⟨@unfC _ _ (hourglassref23_last_k2.eq_1), @unfC _ _ (hourglassref23_last_k3.eq_1)⟩⟩, ⟨⟨@unfC _ _ (hourglassref23_last_k4.eq_1), @unfC _ _ (hourglassref23_last_k5.eq_1)⟩, ⟨@unfC _ _ (hourglassref23_last_k6.eq_1), @unfC _ _ (hourglassref23_last_k7.eq_1)⟩⟩⟩
def C_hourglassref23_last : LFn := ⟨26, [.many 4 18, .t 5], (.seq (.sq [⟨some 3, none, .box false false (.t 1)⟩, ⟨some 4, none, .alloc false (zk ++ [(.s (.str [])), (.s (.bool false))])⟩, ⟨some 5, none, .mv true (.c (.bool false))⟩]) hourglassref23_last_k7)⟩

-- hourglassref23_Check: 0=hourglassref6_Cmp 1=hourglassref23_common 2=hourglassref23_last 3=hourglassref23_Value
def hourglassref23_Check_k1 (c : Nat → FuncId) : LCode := (.seq (.sq [⟨some 50, none, .mv false (.t 3)⟩, ⟨some 51, none, .build [(.s (.int .i64 0)), (.s (.int .i64 0)), (.s (.int .i64 0))] [(0, 1, (.c (.int .i64 1))), (1, 1, (.t 50)), (2, 1, (.c (.int .i64 (-1))))]⟩, ⟨none, none, .store 3 (.t 2) (.t 51)⟩]) .ret)
def hourglassref23_Check_k2 (c : Nat → FuncId) : LCode := (.sq [⟨some 20, none, .mv false (.t 3)⟩, ⟨some 21, none, .bin .add .sc (.t 20) (.c (.int .i64 1))⟩, ⟨some 3, none, .mv true (.t 21)⟩])
def hourglassref23_Check_k3 (c : Nat → FuncId) : LCode := (.seq (.block 1 (.seq (.tree (.rd ⟨some 22, none, .mv false (.t 0)⟩ 0 false (.rd ⟨some 23, none, .mv false (.t 3)⟩ 1 false (.rd ⟨some 24, none, .ixa (.sl 8) (.t 22) (.t 23)⟩ 2 false (.rd ⟨some 25, none, .shift 5 (.t 24)⟩ 3 false (.rd ⟨some 26, none, .load1 false (.t 25)⟩ 4 false (.rd ⟨some 27, none, .mv false (.t 26)⟩ 5 false (.rd ⟨some 28, some (27, true), .mv false (.t 0)⟩ 6 false (.rd ⟨some 29, some (27, true), .mv false (.t 3)⟩ 7 false (.rd ⟨some 30, some (27, true), .ixa (.sl 8) (.t 28) (.t 29)⟩ 8 false (.rd ⟨some 31, some (27, true), .shift 7 (.t 30)⟩ 9 false (.rd ⟨some 32, some (27, true), .load1 false (.t 31)⟩ 10 false (.rd ⟨some 33, some (27, true), .len .sl (.t 32)⟩ 11 false (.rd ⟨some 34, some (27, true), .bin .gtr .sc (.t 33) (.c (.int .i64 0))⟩ 12 false (.rd ⟨some 35, none, .pick (.t 27) (.t 34) (.c (.bool false))⟩ 13 false (.rd ⟨some 36, none, .mv false (.t 35)⟩ 14 false (.rd ⟨some 37, some (36, true), .mv false (.t 0)⟩ 15 false (.rd ⟨some 38, some (36, true), .mv false (.t 3)⟩ 16 false (.rd ⟨some 39, some (36, true), .ixa (.sl 8) (.t 37) (.t 38)⟩ 17 false (.rd ⟨some 40, some (36, true), .shift 3 (.t 39)⟩ 18 false (.rd ⟨some 41, some (36, true), .loadA 2 (.t 40)⟩ 19 false (.rd ⟨some 42, some (36, true), .mv false (.t 0)⟩ 20 false (.rd ⟨some 43, some (36, true), .mv false (.t 3)⟩ 21 false (.rd ⟨some 44, some (36, true), .ixa (.sl 8) (.t 42) (.t 43)⟩ 22 false (.rd ⟨some 45, some (36, true), .shift 1 (.t 44)⟩ 23 false (.rd ⟨some 46, some (36, true), .loadA 2 (.t 45)⟩ 24 false (.mv ⟨some 47, some (36, true), .call (.f (c 0)) [(.t 41), (.t 46)]⟩ [0, 1, 2, 3, 4, 5, 6, 7, 8, 9, 10, 11, 12, 13, 14, 15, 16, 17, 18, 19, 20, 21, 22, 23, 24] (.rd ⟨some 48, some (36, true), .bin .leq .sc (.t 47) (.c (.int .i64 0))⟩ 26 false (.rd ⟨some 49, none, .pick (.t 36) (.t 48) (.c (.bool false))⟩ 27 false .done)) .stop))))))))))))))))))))))))))) (.cond (.t 49) (hourglassref23_Check_k1 c) .skip))) (hourglassref23_Check_k2 c))
def hourglassref23_Check_k4 (c : Nat → FuncId) : LCode := (.seq (.seq (.sq [⟨some 16, none, .mv false (.t 3)⟩, ⟨some 17, none, .mv false (.t 0)⟩, ⟨some 18, none, .len .sl (.t 17)⟩, ⟨some 19, none, .bin .lss .sc (.t 16) (.t 18)⟩]) (.cond (.t 19) .skip (.exit 0))) (hourglassref23_Check_k3 c))
def hourglassref23_Check_k5 (c : Nat → FuncId) : LCode := (.block 0 (.loop [true, false, true, true, false, false, false, false, false, false, false, false, false, false, false, false, false, false, false, false, false, false, false, false, false, false, false, false, false, false, false, false, false, false, false, false, false, false, false, false, false, false, false, false, false, false, false, false, false, false, false, false, false, false, false, false, false, false, false, false, false, false, false, false, false, false, false, false, false, false, false, false, false, false, false, false, false, false, false, false, false, false, false, false, false, false, false, false, false, false, false, false, false, false, false, false, false, false, false, false, false, false, false, false, false, false, false, false, false, false, false, false, false, false, false, false, false, false, false, false, false, false, false, false, false, false, false, false, false, false, false, false, false, false, false, false, false, false, false, false, false, false, false, false, false, false, false, false, false, false, false, false, false, false, false, false, false, false, false, false, false, false, false, false, false, false, false, false, false, false, false, false, false, false, false, false, false, false, false, false, false, false, false, false, false, false, false, false, false, false, false, false, false, false, false, false, false, false, false, false, false, false] (hourglassref23_Check_k4 c)))
def hourglassref23_Check_k6 (c : Nat → FuncId) : LCode := (.seq (.sq [⟨some 107, none, .mv false (.t 5)⟩, ⟨some 108, none, .mv false (.t 6)⟩, ⟨some 109, none, .build [(.s (.int .i64 0)), (.s (.int .i64 0)), (.s (.int .i64 0))] [(0, 1, (.c (.int .i64 2))), (1, 1, (.t 107)), (2, 1, (.t 108))]⟩, ⟨none, none, .store 3 (.t 2) (.t 109)⟩]) .ret)
def hourglassref23_Check_k7 (c : Nat → FuncId) : LCode := (.seq (.sq [⟨some 135, none, .mv false (.t 5)⟩, ⟨some 136, none, .mv false (.t 6)⟩, ⟨some 137, none, .build [(.s (.int .i64 0)), (.s (.int .i64 0)), (.s (.int .i64 0))] [(0, 1, (.c (.int .i64 3))), (1, 1, (.t 135)), (2, 1, (.t 136))]⟩, ⟨none, none, .store 3 (.t 2) (.t 137)⟩]) .ret)
def hourglassref23_Check_k8 (c : Nat → FuncId) : LCode := (.seq (.sq [⟨some 110, none, .mv false (.t 4)⟩, ⟨some 111, none, .bin .eql .sc (.t 110) (.c (.int .i64 3))⟩, ⟨some 112, none, .mv false (.t 111)⟩, ⟨some 113, some (112, true), .shift 7 (.t 7)⟩, ⟨some 114, some (112, true), .load1 false (.t 113)⟩, ⟨some 115, some (112, true), .shift 7 (.t 8)⟩, ⟨some 116, some (112, true), .load1 false (.t 115)⟩, ⟨some 117, some (112, true), .call (.f (c 1)) [(.t 114), (.t 116)]⟩, ⟨some 118, none, .pick (.t 112) (.t 117) (.c (.bool false))⟩, ⟨some 119, none, .mv false (.t 118)⟩, ⟨some 120, some (119, true), .shift 3 (.t 7)⟩, ⟨some 121, some (119, true), .loadA 2 (.t 120)⟩, ⟨some 122, some (119, true), .shift 1 (.t 8)⟩, ⟨some 123, some (119, true), .loadA 2 (.t 122)⟩, ⟨some 124, some (119, true), .call (.f (c 0)) [(.t 121), (.t 123)]⟩, ⟨some 125, some (119, true), .bin .gtr .sc (.t 124) (.c (.int .i64 0))⟩, ⟨some 126, none, .pick (.t 119) (.t 125) (.c (.bool false))⟩, ⟨some 127, none, .mv false (.t 126)⟩, ⟨some 128, some (127, true), .shift 3 (.t 8)⟩, ⟨some 129, some (127, true), .loadA 2 (.t 128)⟩, ⟨some 130, some (127, true), .shift 1 (.t 7)⟩, ⟨some 131, some (127, true), .loadA 2 (.t 130)⟩, ⟨some 132, some (127, true), .call (.f (c 0)) [(.t 129), (.t 131)]⟩, ⟨some 133, some (127, true), .bin .gtr .sc (.t 132) (.c (.int .i64 0))⟩, ⟨some 134, none, .pick (.t 127) (.t 133) (.c (.bool false))⟩]) (.cond (.t 134) (hourglassref23_Check_k7 c) .skip))
def hourglassref23_Check_k9 (c : Nat → FuncId) : LCode := (.seq (.seq (.sq [⟨some 86, none, .mv false (.t 4)⟩, ⟨some 87, none, .bin .eql .sc (.t 86) (.c (.int .i64 2))⟩, ⟨some 88, none, .mv false (.t 87)⟩, ⟨some 89, some (88, true), .shift 7 (.t 7)⟩, ⟨some 90, some (88, true), .load1 false (.t 89)⟩, ⟨some 91, some (88, true), .len .sl (.t 90)⟩, ⟨some 92, some (88, true), .bin .gtr .sc (.t 91) (.c (.int .i64 0))⟩, ⟨some 93, none, .pick (.t 88) (.t 92) (.c (.bool false))⟩, ⟨some 94, none, .mv false (.t 93)⟩, ⟨some 95, some (94, true), .shift 7 (.t 8)⟩, ⟨some 96, some (94, true), .load1 false (.t 95)⟩, ⟨some 97, some (94, true), .len .sl (.t 96)⟩, ⟨some 98, some (94, true), .bin .gtr .sc (.t 97) (.c (.int .i64 0))⟩, ⟨some 99, none, .pick (.t 94) (.t 98) (.c (.bool false))⟩, ⟨some 100, none, .mv false (.t 99)⟩, ⟨some 101, some (100, true), .shift 3 (.t 7)⟩, ⟨some 102, some (100, true), .loadA 2 (.t 101)⟩, ⟨some 103, some (100, true), .shift 3 (.t 8)⟩, ⟨some 104, some (100, true), .loadA 2 (.t 103)⟩, ⟨some 105, some (100, true), .bin .eql (.leaf [.int .i64, .int .u8]) (.t 102) (.t 104)⟩, ⟨some 106, none, .pick (.t 100) (.t 105) (.c (.bool false))⟩]) (.cond (.t 106) (hourglassref23_Check_k6 c) .skip)) (hourglassref23_Check_k8 c))
def hourglassref23_Check_k10 (c : Nat → FuncId) : LCode := (.seq (.seq (.sq [⟨some 78, none, .shift 5 (.t 7)⟩, ⟨some 79, none, .load1 false (.t 78)⟩, ⟨some 80, none, .un .not (.t 79)⟩, ⟨some 81, none, .mv false (.t 80)⟩, ⟨some 82, some (81, false), .shift 5 (.t 8)⟩, ⟨some 83, some (81, false), .load1 false (.t 82)⟩, ⟨some 84, some (81, false), .un .not (.t 83)⟩, ⟨some 85, none, .pick (.t 81) (.c (.bool true)) (.t 84)⟩]) (.cond (.t 85) (.exit 7) .skip)) (hourglassref23_Check_k9 c))
def hourglassref23_Check_k11 (c : Nat → FuncId) : LCode := (.sq [⟨some 68, none, .mv false (.t 6)⟩, ⟨some 69, none, .bin .add .sc (.t 68) (.c (.int .i64 1))⟩, ⟨some 6, none, .mv true (.t 69)⟩])
def hourglassref23_Check_k12 (c : Nat → FuncId) : LCode := (.seq (.block 7 (.seq (.tree (.rd ⟨some 70, none, .mv false (.t 0)⟩ 0 true (.rd ⟨some 71, none, .mv false (.t 5)⟩ 1 true (.rd ⟨some 72, none, .ixa (.sl 8) (.t 70) (.t 71)⟩ 2 true (.rd ⟨some 73, none, .loadA 8 (.t 72)⟩ 3 true (.rd ⟨some 74, none, .mv false (.t 0)⟩ 4 true (.rd ⟨some 75, none, .mv false (.t 6)⟩ 5 true (.rd ⟨some 76, none, .ixa (.sl 8) (.t 74) (.t 75)⟩ 6 true (.rd ⟨some 77, none, .loadA 8 (.t 76)⟩ 7 true (.mv ⟨some 7, none, .alloc false [(.s (.int .i64 0)), (.s (.int .i64 0)), (.s (.int .u8 0)), (.s (.int .i64 0)), (.s (.int .u8 0)), (.s (.bool false)), (.s .nilS), (.s .nilS)]⟩ [] (.mv ⟨some 8, none, .alloc false [(.s (.int .i64 0)), (.s (.int .i64 0)), (.s (.int .u8 0)), (.s (.int .i64 0)), (.s (.int .u8 0)), (.s (.bool false)), (.s .nilS), (.s .nilS)]⟩ [] (.mv ⟨none, none, .store 8 (.t 7) (.t 73)⟩ [0, 1, 2, 3, 8, 9] (.mv ⟨none, none, .store 8 (.t 8) (.t 77)⟩ [0, 1, 2, 3, 4, 5, 6, 7, 8, 9, 10] .done .stop) .stop) .stop) (.mv ⟨some 8, none, .alloc false [(.s (.int .i64 0)), (.s (.int .i64 0)), (.s (.int .u8 0)), (.s (.int .i64 0)), (.s (.int .u8 0)), (.s (.bool false)), (.s .nilS), (.s .nilS)]⟩ [] (.mv ⟨some 7, none, .alloc false [(.s (.int .i64 0)), (.s (.int .i64 0)), (.s (.int .u8 0)), (.s (.int .i64 0)), (.s (.int .u8 0)), (.s (.bool false)), (.s .nilS), (.s .nilS)]⟩ [] (.mv ⟨none, none, .store 8 (.t 7) (.t 73)⟩ [0, 1, 2, 3, 8, 9] (.mv ⟨none, none, .store 8 (.t 8) (.t 77)⟩ [0, 1, 2, 3, 4, 5, 6, 7, 8, 9, 10] .done .stop) .stop) .stop) .stop))))))))))) (hourglassref23_Check_k10 c))) (hourglassref23_Check_k11 c))
def hourglassref23_Check_k13 (c : Nat → FuncId) : LCode := (.seq (.seq (.sq [⟨some 64, none, .mv false (.t 6)⟩, ⟨some 65, none, .mv false (.t 0)⟩, ⟨some 66, none, .len .sl (.t 65)⟩, ⟨some 67, none, .bin .lss .sc (.t 64) (.t 66)⟩]) (.cond (.t 67) .skip (.exit 6))) (hourglassref23_Check_k12 c))
def hourglassref23_Check_k14 (c : Nat → FuncId) : LCode := (.block 6 (.loop [true, false, true, false, true, true, true, false, false, false, false, false, false, false, false, false, false, false, false, false, false, false, false, false, false, false, false, false, false, false, false, false, false, false, false, false, false, false, false, false, false, false, false, false, false, false, false, false, false, false, false, false, false, false, false, false, false, false, false, false, false, false, false, false, false, false, false, false, false, false, false, false, false, false, false, false, false, false, false, false, false, false, false, false, false, false, false, false, false, false, false, false, false, false, false, false, false, false, false, false, false, false, false, false, false, false, false, false, false, false, false, false, false, false, false, false, false, false, false, false, false, false, false, false, false, false, false, false, false, false, false, false, false, false, false, false, false, false, false, false, false, false, false, false, false, false, false, false, false, false, false, false, false, false, false, false, false, false, false, false, false, false, false, false, false, false, false, false, false, false, false, false, false, false, false, false, false, false, false, false, false, false, false, false, false, false, false, false, false, false, false, false, false, false, false, false, false, false, false, false, false, false] (hourglassref23_Check_k13 c)))
def hourglassref23_Check_k15 (c : Nat → FuncId) : LCode := (.sq [⟨some 60, none, .mv false (.t 5)⟩, ⟨some 61, none, .bin .add .sc (.t 60) (.c (.int .i64 1))⟩, ⟨some 5, none, .mv true (.t 61)⟩])
def hourglassref23_Check_k16 (c : Nat → FuncId) : LCode := (.seq (.block 5 (.seq (.sq [⟨some 62, none, .mv false (.t 5)⟩, ⟨some 63, none, .bin .add .sc (.t 62) (.c (.int .i64 1))⟩, ⟨some 6, none, .mv true (.t 63)⟩]) (hourglassref23_Check_k14 c))) (hourglassref23_Check_k15 c))
def hourglassref23_Check_k17 (c : Nat → FuncId) : LCode := (.seq (.seq (.sq [⟨some 56, none, .mv false (.t 5)⟩, ⟨some 57, none, .mv false (.t 0)⟩, ⟨some 58, none, .len .sl (.t 57)⟩, ⟨some 59, none, .bin .lss .sc (.t 56) (.t 58)⟩]) (.cond (.t 59) .skip (.exit 4))) (hourglassref23_Check_k16 c))
def hourglassref23_Check_k18 (c : Nat → FuncId) : LCode := (.block 4 (.loop [true, false, true, false, true, true, false, false, false, false, false, false, false, false, false, false, false, false, false, false, false, false, false, false, false, false, false, false, false, false, false, false, false, false, false, false, false, false, false, false, false, false, false, false, false, false, false, false, false, false, false, false, false, false, false, false, false, false, false, false, false, false, false, false, false, false, false, false, false, false, false, false, false, false, false, false, false, false, false, false, false, false, false, false, false, false, false, false, false, false, false, false, false, false, false, false, false, false, false, false, false, false, false, false, false, false, false, false, false, false, false, false, false, false, false, false, false, false, false, false, false, false, false, false, false, false, false, false, false, false, false, false, false, false, false, false, false, false, false, false, false, false, false, false, false, false, false, false, false, false, false, false, false, false, false, false, false, false, false, false, false, false, false, false, false, false, false, false, false, false, false, false, false, false, false, false, false, false, false, false, false, false, false, false, false, false, false, false, false, false, false, false, false, false, false, false, false, false, false, false, false, false] (hourglassref23_Check_k17 c)))
def hourglassref23_Check_k19 (c : Nat → FuncId) : LCode := (.sq [⟨some 54, none, .mv false (.t 4)⟩, ⟨some 55, none, .bin .add .sc (.t 54) (.c (.int .i64 1))⟩, ⟨some 4, none, .mv true (.t 55)⟩])
def hourglassref23_Check_k20 (c : Nat → FuncId) : LCode := (.seq (.block 3 (.seq (.sq [⟨some 5, none, .mv true (.c (.int .i64 0))⟩]) (hourglassref23_Check_k18 c))) (hourglassref23_Check_k19 c))
def hourglassref23_Check_k21 (c : Nat → FuncId) : LCode := (.seq (.seq (.sq [⟨some 52, none, .mv false (.t 4)⟩, ⟨some 53, none, .bin .leq .sc (.t 52) (.c (.int .i64 3))⟩]) (.cond (.t 53) .skip (.exit 2))) (hourglassref23_Check_k20 c))
def hourglassref23_Check_k22 (c : Nat → FuncId) : LCode := (.block 2 (.loop [true, false, true, false, true, false, false, false, false, false, false, false, false, false, false, false, false, false, false, false, false, false, false, false, false, false, false, false, false, false, false, false, false, false, false, false, false, false, false, false, false, false, false, false, false, false, false, false, false, false, false, false, false, false, false, false, false, false, false, false, false, false, false, false, false, false, false, false, false, false, false, false, false, false, false, false, false, false, false, false, false, false, false, false, false, false, false, false, false, false, false, false, false, false, false, false, false, false, false, false, false, false, false, false, false, false, false, false, false, false, false, false, false, false, false, false, false, false, false, false, false, false, false, false, false, false, false, false, false, false, false, false, false, false, false, false, false, false, false, false, false, false, false, false, false, false, false, false, false, false, false, false, false, false, false, false, false, false, false, false, false, false, false, false, false, false, false, false, false, false, false, false, false, false, false, false, false, false, false, false, false, false, false, false, false, false, false, false, false, false, false, false, false, false, false, false, false, false, false, false, false, false] (hourglassref23_Check_k21 c)))
def hourglassref23_Check_k23 (c : Nat → FuncId) : LCode := (.seq (.sq [⟨some 199, none, .mv false (.t 9)⟩, ⟨some 200, none, .build [(.s (.int .i64 0)), (.s (.int .i64 0)), (.s (.int .i64 0))] [(0, 1, (.c (.int .i64 4))), (1, 1, (.t 199)), (2, 1, (.c (.int .i64 (-1))))]⟩, ⟨none, none, .store 3 (.t 2) (.t 200)⟩]) .ret)
def hourglassref23_Check_k24 (c : Nat → FuncId) : LCode := (.seq (.sq [⟨some 185, none, .mv false (.t 13)⟩, ⟨some 186, none, .un .not (.t 185)⟩, ⟨some 187, none, .mv false (.t 186)⟩, ⟨some 188, some (187, true), .mv false (.t 14)⟩, ⟨some 189, some (187, true), .shift 16 (.t 11)⟩, ⟨some 190, some (187, true), .load1 false (.t 189)⟩, ⟨some 191, some (187, true), .bin .neq .sc (.t 188) (.t 190)⟩, ⟨some 192, some (187, true), .mv false (.t 191)⟩, ⟨some 193, some (192, false), .mv false (.t 15)⟩, ⟨some 194, some (192, false), .shift 17 (.t 11)⟩, ⟨some 195, some (192, false), .load1 false (.t 194)⟩, ⟨some 196, some (192, false), .bin .neq .bl (.t 193) (.t 195)⟩, ⟨some 197, some (187, true), .pick (.t 192) (.c (.bool true)) (.t 196)⟩, ⟨some 198, none, .pick (.t 187) (.t 197) (.c (.bool false))⟩]) (.cond (.t 198) (hourglassref23_Check_k23 c) .skip))
def hourglassref23_Check_k25 (c : Nat → FuncId) : LCode := (.seq (.tree (.rd ⟨some 174, none, .mv false (.t 0)⟩ 0 false (.rd ⟨some 175, none, .shift 0 (.t 11)⟩ 1 false (.rd ⟨some 176, none, .loadA 16 (.t 175)⟩ 2 false (.rd ⟨some 177, none, .mv false (.t 0)⟩ 3 false (.rd ⟨some 178, none, .mv false (.t 9)⟩ 4 false (.rd ⟨some 179, none, .ixa (.sl 8) (.t 177) (.t 178)⟩ 5 false (.rd ⟨some 180, none, .shift 1 (.t 179)⟩ 6 false (.rd ⟨some 181, none, .loadA 2 (.t 180)⟩ 7 false (.mv ⟨some 182, none, .call (.f (c 3)) [(.t 174), (.t 176), (.t 181)]⟩ [0, 1, 2, 3, 4, 5, 6, 7] (.rd ⟨some 173, none, .mv false (.t 182)⟩ 9 false (.rd ⟨some 183, none, .ext (.t 173) 0⟩ 10 false (.rd ⟨some 184, none, .ext (.t 173) 1⟩ 11 true (.mv ⟨some 14, none, .mv true (.t 183)⟩ [0, 1, 2, 3, 4, 5, 6, 7, 8, 9, 10] (.mv ⟨some 15, none, .mv true (.t 184)⟩ [0, 1, 2, 3, 4, 5, 6, 7, 8, 9, 10, 11, 12] .done .stop) .stop)))) .stop)))))))))) (hourglassref23_Check_k24 c))
def hourglassref23_Check_k26 (c : Nat → FuncId) : LCode := (.seq (.tree (.rd ⟨some 163, none, .mv false (.t 0)⟩ 0 true (.rd ⟨some 164, none, .mv false (.t 9)⟩ 1 true (.rd ⟨some 165, none, .ixa (.sl 8) (.t 163) (.t 164)⟩ 2 true (.rd ⟨some 166, none, .shift 7 (.t 165)⟩ 3 true (.rd ⟨some 167, none, .load1 false (.t 166)⟩ 4 true (.rd ⟨some 168, none, .shift 0 (.t 11)⟩ 5 true (.rd ⟨some 169, none, .loadA 16 (.t 168)⟩ 6 true (.mv ⟨some 170, none, .call (.f (c 2)) [(.t 167), (.t 169)]⟩ [0, 1, 2, 3, 4, 5, 6] (.rd ⟨some 162, none, .mv false (.t 170)⟩ 8 true (.rd ⟨some 171, none, .ext (.t 162) 0⟩ 9 true (.rd ⟨some 172, none, .ext (.t 162) 1⟩ 10 true (.mv ⟨some 12, none, .alloc false (zk ++ [(.s (.str [])), (.s (.bool false))])⟩ [] (.mv ⟨none, none, .store 18 (.t 12) (.t 171)⟩ [0, 1, 2, 3, 4, 5, 6, 7, 8, 9, 11] (.mv ⟨some 13, none, .mv true (.t 172)⟩ [0, 1, 2, 3, 4, 5, 6, 7, 8, 9, 10, 11, 12] .done .stop) .stop) .stop)))) (.mv ⟨some 12, none, .alloc false (zk ++ [(.s (.str [])), (.s (.bool false))])⟩ [] (.mv ⟨some 170, none, .call (.f (c 2)) [(.t 167), (.t 169)]⟩ [0, 1, 2, 3, 4, 5, 6] (.rd ⟨some 162, none, .mv false (.t 170)⟩ 8 false (.rd ⟨some 171, none, .ext (.t 162) 0⟩ 9 false (.rd ⟨some 172, none, .ext (.t 162) 1⟩ 10 true (.mv ⟨none, none, .store 18 (.t 12) (.t 171)⟩ [0, 1, 2, 3, 4, 5, 6, 7, 8, 9, 11] (.mv ⟨some 13, none, .mv true (.t 172)⟩ [0, 1, 2, 3, 4, 5, 6, 7, 8, 9, 10, 11, 12] .done .stop) .stop)))) .stop) .stop)))))))))) (hourglassref23_Check_k25 c))
def hourglassref23_Check_k27 (c : Nat → FuncId) : LCode := (.sq [⟨some 152, none, .mv false (.t 10)⟩, ⟨some 153, none, .bin .add .sc (.t 152) (.c (.int .i64 1))⟩, ⟨some 10, none, .mv true (.t 153)⟩])
def hourglassref23_Check_k28 (c : Nat → FuncId) : LCode := (.seq (.block 11 (.seq (.sq [⟨some 154, none, .mv false (.t 0)⟩, ⟨some 155, none, .mv false (.t 9)⟩, ⟨some 156, none, .ixa (.sl 8) (.t 154) (.t 155)⟩, ⟨some 157, none, .shift 6 (.t 156)⟩, ⟨some 158, none, .load1 false (.t 157)⟩, ⟨some 159, none, .mv false (.t 10)⟩, ⟨some 160, none, .ixa (.sl 18) (.t 158) (.t 159)⟩, ⟨some 161, none, .loadA 18 (.t 160)⟩, ⟨some 11, none, .alloc false (zk ++ [(.s (.str [])), (.s (.bool false))])⟩, ⟨none, none, .store 18 (.t 11) (.t 161)⟩]) (hourglassref23_Check_k26 c))) (hourglassref23_Check_k27 c))
def hourglassref23_Check_k29 (c : Nat → FuncId) : LCode := (.seq (.seq (.sq [⟨some 144, none, .mv false (.t 10)⟩, ⟨some 145, none, .mv false (.t 0)⟩, ⟨some 146, none, .mv false (.t 9)⟩, ⟨some 147, none, .ixa (.sl 8) (.t 145) (.t 146)⟩, ⟨some 148, none, .shift 6 (.t 147)⟩, ⟨some 149, none, .load1 false (.t 148)⟩, ⟨some 150, none, .len .sl (.t 149)⟩, ⟨some 151, none, .bin .lss .sc (.t 144) (.t 150)⟩]) (.cond (.t 151) .skip (.exit 10))) (hourglassref23_Check_k28 c))
def hourglassref23_Check_k30 (c : Nat → FuncId) : LCode := (.block 10 (.loop [true, false, true, false, false, false, false, false, false, true, true, false, false, false, false, false, false, false, false, false, false, false, false, false, false, false, false, false, false, false, false, false, false, false, false, false, false, false, false, false, false, false, false, false, false, false, false, false, false, false, false, false, false, false, false, false, false, false, false, false, false, false, false, false, false, false, false, false, false, false, false, false, false, false, false, false, false, false, false, false, false, false, false, false, false, false, false, false, false, false, false, false, false, false, false, false, false, false, false, false, false, false, false, false, false, false, false, false, false, false, false, false, false, false, false, false, false, false, false, false, false, false, false, false, false, false, false, false, false, false, false, false, false, false, false, false, false, false, false, false, false, false, false, false, false, false, false, false, false, false, false, false, false, false, false, false, false, false, false, false, false, false, false, false, false, false, false, false, false, false, false, false, false, false, false, false, false, false, false, false, false, false, false, false, false, false, false, false, false, false, false, false, false, false, false, false, false, false, false, false, false, false] (hourglassref23_Check_k29 c)))
def hourglassref23_Check_k31 (c : Nat → FuncId) : LCode := (.sq [⟨some 142, none, .mv false (.t 9)⟩, ⟨some 143, none, .bin .add .sc (.t 142) (.c (.int .i64 1))⟩, ⟨some 9, none, .mv true (.t 143)⟩])
def hourglassref23_Check_k32 (c : Nat → FuncId) : LCode := (.seq (.block 9 (.seq (.sq [⟨some 10, none, .mv true (.c (.int .i64 0))⟩]) (hourglassref23_Check_k30 c))) (hourglassref23_Check_k31 c))
def hourglassref23_Check_k33 (c : Nat → FuncId) : LCode := (.seq (.seq (.sq [⟨some 138, none, .mv false (.t 9)⟩, ⟨some 139, none, .mv false (.t 0)⟩, ⟨some 140, none, .len .sl (.t 139)⟩, ⟨some 141, none, .bin .lss .sc (.t 138) (.t 140)⟩]) (.cond (.t 141) .skip (.exit 8))) (hourglassref23_Check_k32 c))
def hourglassref23_Check_k34 (c : Nat → FuncId) : LCode := (.block 8 (.loop [true, false, true, false, false, false, false, false, false, true, false, false, false, false, false, false, false, false, false, false, false, false, false, false, false, false, false, false, false, false, false, false, false, false, false, false, false, false, false, false, false, false, false, false, false, false, false, false, false, false, false, false, false, false, false, false, false, false, false, false, false, false, false, false, false, false, false, false, false, false, false, false, false, false, false, false, false, false, false, false, false, false, false, false, false, false, false, false, false, false, false, false, false, false, false, false, false, false, false, false, false, false, false, false, false, false, false, false, false, false, false, false, false, false, false, false, false, false, false, false, false, false, false, false, false, false, false, false, false, false, false, false, false, false, false, false, false, false, false, false, false, false, false, false, false, false, false, false, false, false, false, false, false, false, false, false, false, false, false, false, false, false, false, false, false, false, false, false, false, false, false, false, false, false, false, false, false, false, false, false, false, false, false, false, false, false, false, false, false, false, false, false, false, false, false, false, false, false, false, false, false, false] (hourglassref23_Check_k33 c)))
def hourglassref23_Check_k35 (c : Nat → FuncId) : LCode := (.seq (.sq [⟨some 201, none, .build [(.s (.int .i64 0)), (.s (.int .i64 0)), (.s (.int .i64 0))] [(0, 1, (.c (.int .i64 0))), (1, 1, (.c (.int .i64 (-1)))), (2, 1, (.c (.int .i64 (-1))))]⟩, ⟨none, none, .store 3 (.t 2) (.t 201)⟩]) .ret)
def hourglassref23_Check_k36 (c : Nat → FuncId) : LCode := (.seq (.seq (.sq [⟨some 9, none, .mv true (.c (.int .i64 0))⟩]) (hourglassref23_Check_k34 c)) (hourglassref23_Check_k35 c))
def hourglassref23_Check_k37 (c : Nat → FuncId) : LCode := (.seq (.seq (.sq [⟨some 4, none, .mv true (.c (.int .i64 2))⟩]) (hourglassref23_Check_k22 c)) (hourglassref23_Check_k36 c))
def hourglassref23_Check_k38 (c : Nat → FuncId) : LCode := (.seq (.seq (.sq [⟨some 3, none, .mv true (.c (.int .i64 0))⟩]) (hourglassref23_Check_k5 c)) (hourglassref23_Check_k37 c))
theorem U_hourglassref23_Check (c : Nat → FuncId) : (((((type_of% (@unfC _ _ (hourglassref23_Check_k1.eq_1 c)) ∧ type_of% (@unfC _ _ (hourglassref23_Check_k2.eq_1 c))) ∧ (type_of% (@unfC _ _ (hourglassref23_Check_k3.eq_1 c)) ∧ type_of% (@unfC _ _ (hourglassref23_Check_k4.eq_1 c)))) ∧ ((type_of% (@unfC _ _ (hourglassref23_Check_k5.eq_1 c)) ∧ type_of% (@unfC _ _ (hourglassref23_Check_k6.eq_1 c))) ∧ (type_of% (@unfC _ _ (hourglassref23_Check_k7.eq_1 c)) ∧ (type_of% (@unfC _ _ (hourglassref23_Check_k8.eq_1 c)) ∧ type_of% (@unfC _ _ (hourglassref23_Check_k9.eq_1 c)))))) ∧ (((type_of% (@unfC _ _ (hourglassref23_Check_k10.eq_1 c)) ∧ type_of% (@unfC _ _ (hourglassref23_Check_k11.eq_1 c))) ∧ (type_of% (@unfC _ _ (hourglassref23_Check_k12.eq_1 c)) ∧ (type_of% (@unfC _ _ (hourglassref23_Check_k13.eq_1 c)) ∧ type_of% (@unfC _ _ (hourglassref23_Check_k14.eq_1 c))))) ∧ ((type_of% (@unfC _ _ (hourglassref23_Check_k15.eq_1 c)) ∧ type_of% (@unfC _ _ (hourglassref23_Check_k16.eq_1 c))) ∧ (type_of% (@unfC _ _ (hourglassref23_Check_k17.eq_1 c)) ∧ (type_of% (@unfC _ _ (hourglassref23_Check_k18.eq_1 c)) ∧ type_of% (@unfC _ _ (hourglassref23_Check_k19.eq_1 c))))))) ∧ ((((type_of% (@unfC _ _ (hourglassref23_Check_k20.eq_1 c)) ∧ type_of% (@unfC _ _ (hourglassref23_Check_k21.eq_1 c))) ∧ (type_of% (@unfC _ _ (hourglassref23_Check_k22.eq_1 c)) ∧ type_of% (@unfC _ _ (hourglassref23_Check_k23.eq_1 c)))) ∧ ((type_of% (@unfC _ _ (hourglassref23_Check_k24.eq_1 c)) ∧ type_of% (@unfC _ _ (hourglassref23_Check_k25.eq_1 c))) ∧ (type_of% (@unfC _ _ (hourglassref23_Check_k26.eq_1 c)) ∧ (type_of% (@unfC _ _ (hourglassref23_Check_k27.eq_1 c)) ∧ type_of% (@unfC _ _ (hourglassref23_Check_k28.eq_1 c)))))) ∧ (((type_of% (@unfC _ _ (hourglassref23_Check_k29.eq_1 c)) ∧ type_of% (@unfC _ _ (hourglassref23_Check_k30.eq_1 c))) ∧ (type_of% (@unfC _ _ (hourglassref23_Check_k31.eq_1 c)) ∧ (type_of% (@unfC _ _ (hourglassref23_Check_k32.eq_1 c)) ∧ type_of% (@unfC _ _ (hourglassref23_Check_k33.eq_1 c))))) ∧ ((type_of% (@unfC _ _ (hourglassref23_Check_k34.eq_1 c)) ∧ type_of% (@unfC _ _ (hourglassref23_Check_k35.eq_1 c))) ∧ (type_of% (@unfC _ _ (hourglassref23_Check_k36.eq_1 c)) ∧ (type_of% (@unfC _ _ (hourglassref23_Check_k37.eq_1 c)) ∧ type_of% (@unfC _ _ (hourglassref23_Check_k38.eq_1 c)))))))) := ⟨⟨⟨⟨⟨@unfC _ _ (hourglassref23_Check_k1.eq_1 c), @unfC _ _ (hourglassref23_Check_k2.eq_1 c)⟩, ⟨@unfC _ _ (hourglassref23_Check_k3.eq_1 c), @unfC _ _ (hourglassref23_Check_k4.eq_1 c)⟩⟩, ⟨⟨@unfC _ _ (hourglassref23_Check_k5.eq_1 c), @unfC _ _ (hourglassref23_Check_k6.eq_1 c)⟩, ⟨@unfC _ _ (hourglassref23_Check_k7.eq_1 c), ⟨@unfC _ _ (hourglassref23_Check_k8.eq_1 c), @unfC _ _ (hourglassref23_Check_k9.eq_1 c)⟩⟩⟩⟩, ⟨⟨⟨@unfC _ _ (hourglassref23_Check_k10.eq_1 c), @unfC _ _ (hourglassref23_Check_k11.eq_1 c)⟩, ⟨@unfC _ _ (hourglassref23_Check_k12.eq_1 c), ⟨@unfC _ _ (hourglassref23_Check_k13.eq_1 c), @unfC _ _ (hourglassref23_Check_k14.eq_1 c)⟩⟩⟩, ⟨⟨@unfC _ _ (hourglassref23_Check_k15.eq_1 c), @unfC _ _ (hourglassref23_Check_k16.eq_1 c)⟩, ⟨@unfC _ _ (hourglassref23_Check_k17.eq_1 c), ⟨@unfC _ _ (hourglassref23_Check_k18.eq_1 c), @unfC _ _ (hourglassref23_Check_k19.eq_1 c)⟩⟩⟩⟩⟩, ⟨⟨⟨⟨@unfC _ _ (hourglassref23_Check_k20.eq_1 c), @unfC _ _ (hourglassref23_Check_k21.eq_1 c)⟩, ⟨@unfC _ _ (hourglassref23_Check_k22.eq_1 c), @unfC _ _ (hourglassref23_Check_k23.eq_1 c)⟩⟩, ⟨⟨@unfC _ _ (hourglassref23_Check_k24.eq_1 c), @unfC _ _ (hourglassref23_Check_k25.eq_1 c)⟩, ⟨@unfC _ _ (hourglassref23_Check_k26.eq_1 c), ⟨@unfC _ _ (hourglassref23_Check_k27.eq_1 c), @unfC _ _ (hourglassref23_Check_k28.eq_1 c)⟩⟩⟩⟩, ⟨⟨⟨@unfC _ _ (hourglassref23_Check_k29.eq_1 c), @unfC _ _ (hourglassref23_Check_k30.eq_1 c)⟩, ⟨@unfC _ _ (hourglassref23_Check_k31.eq_1 c), ⟨@unfC _ _ (hourglassref23_Check_k32.eq_1 c), @unfC _ _ (hourglassref23_Check_k33.eq_1 c)⟩⟩⟩, ⟨⟨@unfC _ _ (hourglassref23_Check_k34.eq_1 c), @unfC _ _ (hourglassref23_Check_k35.eq_1 c)⟩, ⟨@unfC _ _ (hourglassref23_Check_k36.eq_1 c), ⟨@unfC _ _ (hourglassref23_Check_k37.eq_1 c), @unfC _ _ (hourglassref23_Check_k38.eq_1 c)⟩⟩⟩⟩⟩⟩
def C_hourglassref23_Check (c : Nat → FuncId) : LFn := ⟨202, [.many 2 3], (.seq (.sq [⟨some 2, none, .alloc false [(.s (.int .i64 0)), (.s (.int .i64 0)), (.s (.int .i64 0))]⟩]) (hourglassref23_Check_k38 c))⟩

-- hourglassref23_Value: 0=hourglassref23_last 1=hourglassref6_Cmp
def hourglassref23_Value_k1 (c : Nat → FuncId) : LCode := (.tree (.rd ⟨some 65, none, .loadA 18 (.t 12)⟩ 0 false (.rd ⟨some 66, none, .mv false (.t 0)⟩ 1 true (.rd ⟨some 67, none, .mv false (.t 11)⟩ 2 true (.rd ⟨some 68, none, .ixa (.sl 8) (.t 66) (.t 67)⟩ 3 true (.rd ⟨some 69, none, .shift 3 (.t 68)⟩ 4 true (.rd ⟨some 70, none, .loadA 2 (.t 69)⟩ 5 true (.mv ⟨none, none, .store 18 (.t 8) (.t 65)⟩ [0] (.mv ⟨some 9, none, .mv true (.c (.bool true))⟩ [0, 6] (.mv ⟨none, none, .store 2 (.t 10) (.t 70)⟩ [0, 1, 2, 3, 4, 5, 6, 7] .done .stop) .stop) .stop))))))))
def hourglassref23_Value_k2 (c : Nat → FuncId) : LCode := (.seq (.seq (.tree (.rd ⟨some 32, none, .mv false (.t 13)⟩ 0 false (.rd ⟨some 33, none, .un .not (.t 32)⟩ 1 false (.rd ⟨some 34, none, .mv false (.t 33)⟩ 2 false (.rd ⟨some 35, some (34, false), .mv false (.t 0)⟩ 3 false (.rd ⟨some 36, some (34, false), .mv false (.t 11)⟩ 4 false (.rd ⟨some 37, some (34, false), .ixa (.sl 8) (.t 35) (.t 36)⟩ 5 false (.rd ⟨some 38, some (34, false), .shift 5 (.t 37)⟩ 6 false (.rd ⟨some 39, some (34, false), .load1 false (.t 38)⟩ 7 false (.rd ⟨some 40, some (34, false), .un .not (.t 39)⟩ 8 false (.rd ⟨some 41, none, .pick (.t 34) (.c (.bool true)) (.t 40)⟩ 9 false (.rd ⟨some 42, none, .mv false (.t 41)⟩ 10 false (.rd ⟨some 43, some (42, false), .mv false (.t 0)⟩ 11 false (.rd ⟨some 44, some (42, false), .mv false (.t 11)⟩ 12 false (.rd ⟨some 45, some (42, false), .ixa (.sl 8) (.t 43) (.t 44)⟩ 13 false (.rd ⟨some 46, some (42, false), .shift 3 (.t 45)⟩ 14 false (.rd ⟨some 47, some (42, false), .loadA 2 (.t 46)⟩ 15 false (.rd ⟨some 48, some (42, false), .loadA 2 (.t 5)⟩ 16 false (.mv ⟨some 49, some (42, false), .call (.f (c 1)) [(.t 47), (.t 48)]⟩ [0, 1, 2, 3, 4, 5, 6, 7, 8, 9, 10, 11, 12, 13, 14, 15, 16] (.rd ⟨some 50, some (42, false), .bin .gtr .sc (.t 49) (.c (.int .i64 0))⟩ 18 false (.rd ⟨some 51, none, .pick (.t 42) (.c (.bool true)) (.t 50)⟩ 19 false (.rd ⟨some 52, none, .mv false (.t 51)⟩ 20 false (.rd ⟨some 53, some (52, false), .mv false (.t 9)⟩ 21 false (.rd ⟨some 54, some (52, false), .mv false (.t 53)⟩ 22 false (.rd ⟨some 55, some (54, true), .mv false (.t 0)⟩ 23 false (.rd ⟨some 56, some (54, true), .mv false (.t 11)⟩ 24 false (.rd ⟨some 57, some (54, true), .ixa (.sl 8) (.t 55) (.t 56)⟩ 25 false (.rd ⟨some 58, some (54, true), .shift 3 (.t 57)⟩ 26 false (.rd ⟨some 59, some (54, true), .loadA 2 (.t 58)⟩ 27 false (.rd ⟨some 60, some (54, true), .loadA 2 (.t 10)⟩ 28 false (.mv ⟨some 61, some (54, true), .call (.f (c 1)) [(.t 59), (.t 60)]⟩ [0, 1, 2, 3, 4, 5, 6, 7, 8, 9, 10, 11, 12, 13, 14, 15, 16, 17, 18, 19, 20, 21, 22, 23, 24, 25, 26, 27, 28] (.rd ⟨some 62, some (54, true), .bin .leq .sc (.t 61) (.c (.int .i64 0))⟩ 30 false (.rd ⟨some 63, some (52, false), .pick (.t 54) (.t 62) (.c (.bool false))⟩ 31 false (.rd ⟨some 64, none, .pick (.t 52) (.c (.bool true)) (.t 63)⟩ 32 false .done))) .stop)))))))))))) .stop))))))))))))))))))) (.cond (.t 64) (.exit 1) .skip)) (hourglassref23_Value_k1 c))
def hourglassref23_Value_k3 (c : Nat → FuncId) : LCode := (.sq [⟨some 20, none, .mv false (.t 11)⟩, ⟨some 21, none, .bin .add .sc (.t 20) (.c (.int .i64 1))⟩, ⟨some 11, none, .mv true (.t 21)⟩])
def hourglassref23_Value_k4 (c : Nat → FuncId) : LCode := (.seq (.block 1 (.seq (.tree (.rd ⟨some 23, none, .mv false (.t 0)⟩ 0 true (.rd ⟨some 24, none, .mv false (.t 11)⟩ 1 true (.rd ⟨some 25, none, .ixa (.sl 8) (.t 23) (.t 24)⟩ 2 true (.rd ⟨some 26, none, .shift 7 (.t 25)⟩ 3 true (.rd ⟨some 27, none, .load1 false (.t 26)⟩ 4 true (.rd ⟨some 28, none, .loadA 16 (.t 4)⟩ 5 true (.mv ⟨some 29, none, .call (.f (c 0)) [(.t 27), (.t 28)]⟩ [0, 1, 2, 3, 4, 5] (.rd ⟨some 22, none, .mv false (.t 29)⟩ 7 true (.rd ⟨some 30, none, .ext (.t 22) 0⟩ 8 true (.rd ⟨some 31, none, .ext (.t 22) 1⟩ 9 true (.mv ⟨some 12, none, .alloc false (zk ++ [(.s (.str [])), (.s (.bool false))])⟩ [] (.mv ⟨none, none, .store 18 (.t 12) (.t 30)⟩ [0, 1, 2, 3, 4, 5, 6, 7, 8, 10] (.mv ⟨some 13, none, .mv true (.t 31)⟩ [0, 1, 2, 3, 4, 5, 6, 7, 8, 9, 10, 11] .done .stop) .stop) .stop)))) (.mv ⟨some 12, none, .alloc false (zk ++ [(.s (.str [])), (.s (.bool false))])⟩ [] (.mv ⟨some 29, none, .call (.f (c 0)) [(.t 27), (.t 28)]⟩ [0, 1, 2, 3, 4, 5] (.rd ⟨some 22, none, .mv false (.t 29)⟩ 7 false (.rd ⟨some 30, none, .ext (.t 22) 0⟩ 8 false (.rd ⟨some 31, none, .ext (.t 22) 1⟩ 9 true (.mv ⟨none, none, .store 18 (.t 12) (.t 30)⟩ [0, 1, 2, 3, 4, 5, 6, 7, 8, 10] (.mv ⟨some 13, none, .mv true (.t 31)⟩ [0, 1, 2, 3, 4, 5, 6, 7, 8, 9, 10, 11] .done .stop) .stop)))) .stop) .stop))))))))) (hourglassref23_Value_k2 c))) (hourglassref23_Value_k3 c))
def hourglassref23_Value_k5 (c : Nat → FuncId) : LCode := (.seq (.seq (.sq [⟨some 16, none, .mv false (.t 11)⟩, ⟨some 17, none, .mv false (.t 0)⟩, ⟨some 18, none, .len .sl (.t 17)⟩, ⟨some 19, none, .bin .lss .sc (.t 16) (.t 18)⟩]) (.cond (.t 19) .skip (.exit 0))) (hourglassref23_Value_k4 c))
def hourglassref23_Value_k6 (c : Nat → FuncId) : LCode := (.block 0 (.loop [true, false, false, false, true, true, false, false, true, true, true, true, false, false, false, false, false, false, false, false, false, false, false, false, false, false, false, false, false, false, false, false, false, false, false, false, false, false, false, false, false, false, false, false, false, false, false, false, false, false, false, false, false, false, false, false, false, false, false, false, false, false, false, false, false, false, false, false, false, false, false, false, false, false, false, false, false, false, false] (hourglassref23_Value_k5 c)))
def hourglassref23_Value_k7 (c : Nat → FuncId) : LCode := (.cond (.t 76) (.seq (.sq [⟨some 6, none, .mv true (.c (.str []))⟩, ⟨some 7, none, .mv true (.c (.bool false))⟩]) .ret) .skip)
def hourglassref23_Value_k8 (c : Nat → FuncId) : LCode := (.seq (.sq [⟨some 77, none, .shift 16 (.t 8)⟩, ⟨some 78, none, .load1 false (.t 77)⟩, ⟨some 6, none, .mv true (.t 78)⟩, ⟨some 7, none, .mv true (.c (.bool true))⟩]) .ret)
def hourglassref23_Value_k9 (c : Nat → FuncId) : LCode := (.seq (.seq (.sq [⟨some 71, none, .mv false (.t 9)⟩, ⟨some 72, none, .un .not (.t 71)⟩, ⟨some 73, none, .mv false (.t 72)⟩, ⟨some 74, some (73, false), .shift 17 (.t 8)⟩, ⟨some 75, some (73, false), .load1 false (.t 74)⟩, ⟨some 76, none, .pick (.t 73) (.c (.bool true)) (.t 75)⟩]) (hourglassref23_Value_k7 c)) (hourglassref23_Value_k8 c))
def hourglassref23_Value_k10 (c : Nat → FuncId) : LCode := (.seq (.seq (.sq [⟨some 11, none, .mv true (.c (.int .i64 0))⟩]) (hourglassref23_Value_k6 c)) (hourglassref23_Value_k9 c))
def hourglassref23_Value_k11 (c : Nat → FuncId) : LCode := (.seq (.sq [⟨some 15, none, .build [(.s (.int .i64 0)), (.s (.int .u8 0))] []⟩, ⟨some 10, none, .alloc false [(.s (.int .i64 0)), (.s (.int .u8 0))]⟩, ⟨none, none, .store 2 (.t 10) (.t 15)⟩]) (hourglassref23_Value_k10 c))
def hourglassref23_Value_k12 (c : Nat → FuncId) : LCode := (.seq (.sq [⟨some 14, none, .build (zk ++ [(.s (.str [])), (.s (.bool false))]) []⟩, ⟨some 8, none, .alloc false (zk ++ [(.s (.str [])), (.s (.bool false))])⟩, ⟨none, none, .store 18 (.t 8) (.t 14)⟩, ⟨some 9, none, .mv true (.c (.bool false))⟩]) (hourglassref23_Value_k11 c))
theorem U_hourglassref23_Value (c : Nat → FuncId) : (((type_of% (@unfC _ _ (hourglassref23_Value_k1.eq_1 c)) ∧ (type_of% (@unfC _ _ (hourglassref23_Value_k2.eq_1 c)) ∧ type_of% (@unfC _ _ (hourglassref23_Value_k3.eq_1 c)))) ∧ (type_of% (@unfC _ _ (hourglassref23_Value_k4.eq_1 c)) ∧ (type_of% (@unfC _ _ (hourglassref23_Value_k5.eq_1 c)) ∧ type_of% (@unfC _ _ (hourglassref23_Value_k6.eq_1 c))))) ∧ ((type_of% (@unfC _ _ (hourglassref23_Value_k7.eq_1 c)) ∧ (type_of% (@unfC _ _ (hourglassref23_Value_k8.eq_1 c)) ∧ type_of% (@unfC _ _ (hourglassref23_Value_k9.eq_1 c)))) ∧ (type_of% (@unfC _ _ (hourglassref23_Value_k10.eq_1 c)) ∧ (type_of% (@unfC _ _ (hourglassref23_Value_k11.eq_1 c)) ∧ type_of% (@unfC _ _ (hourglassref23_Value_k12.eq_1 c)))))) := ⟨⟨⟨@unfC _ _ (hourglassref23_Value_k1.eq_1 c), ⟨@unfC _ _ (hourglassref23_Value_k2.eq_1 c), @unfC _ _ (hourglassref23_Value_k3.eq_1 c)⟩⟩, ⟨@unfC _ _ (hourglassref23_Value_k4.eq_1 c), ⟨@unfC _ _ (hourglassref23_Value_k5.eq_1 c), @unfC _ _ (hourglassref23_Value_k6.eq_1 c)⟩⟩⟩, ⟨⟨@unfC _ _ (hourglassref23_Value_k7.eq_1 c), ⟨@unfC _ _ (hourglassref23_Value_k8.eq_1 c), @unfC _ _ (hourglassref23_Value_k9.eq_1 c)⟩⟩, ⟨@unfC _ _ (hourglassref23_Value_k10.eq_1 c), ⟨@unfC _ _ (hourglassref23_Value_k11.eq_1 c), @unfC _ _ (hourglassref23_Value_k12.eq_1 c)⟩⟩⟩⟩
def C_hourglassref23_Value (c : Nat → FuncId) : LFn := ⟨79, [.t 6, .t 7], (.seq (.sq [⟨some 4, none, .box false false (.t 1)⟩, ⟨some 5, none, .box false false (.t 2)⟩, ⟨some 6, none, .mv true (.c (.str []))⟩, ⟨some 7, none, .mv true (.c (.bool false))⟩]) (hourglassref23_Value_k12 c))⟩

-- hourglasslaw24_txns: 
def hourglasslaw24_txns_k1 : LCode := (.sq [⟨some 58, none, .shift 6 (.t 5)⟩, ⟨some 59, none, .load1 true (.t 58)⟩, ⟨some 60, none, .shift 0 (.t 7)⟩, ⟨some 61, none, .loadA 16 (.t 60)⟩, ⟨some 62, none, .shift 16 (.t 7)⟩, ⟨some 63, none, .load1 false (.t 62)⟩, ⟨some 64, none, .shift 17 (.t 7)⟩, ⟨some 65, none, .load1 false (.t 64)⟩, ⟨some 66, none, .build (zk ++ [(.s (.str [])), (.s (.bool false))]) [(0, 16, (.t 61)), (16, 1, (.t 63)), (17, 1, (.t 65))]⟩, ⟨some 67, none, .bsl ⟨18, true, 40, (.agg (zk ++ [(.s (.str [])), (.s (.bool false))]))⟩ 1 [(0, (.t 66))]⟩, ⟨some 68, none, .app ⟨18, true, 40, (.agg (zk ++ [(.s (.str [])), (.s (.bool false))]))⟩ false (.t 59) (.t 67)⟩, ⟨some 69, none, .shift 6 (.t 5)⟩, ⟨none, none, .store 1 (.t 69) (.t 68)⟩])
def hourglasslaw24_txns_k2 : LCode := (.sq [⟨some 48, none, .mv false (.t 6)⟩, ⟨some 49, none, .bin .add .sc (.t 48) (.c (.int .i64 1))⟩, ⟨some 6, none, .mv true (.t 49)⟩])
def hourglasslaw24_txns_k3 : LCode := (.seq (.block 3 (.seq (.sq [⟨some 50, none, .mv false (.t 0)⟩, ⟨some 51, none, .mv false (.t 4)⟩, ⟨some 52, none, .ixa (.sl 8) (.t 50) (.t 51)⟩, ⟨some 53, none, .shift 6 (.t 52)⟩, ⟨some 54, none, .load1 false (.t 53)⟩, ⟨some 55, none, .mv false (.t 6)⟩, ⟨some 56, none, .ixa (.sl 18) (.t 54) (.t 55)⟩, ⟨some 57, none, .loadA 18 (.t 56)⟩, ⟨some 7, none, .alloc false (zk ++ [(.s (.str [])), (.s (.bool false))])⟩, ⟨none, none, .store 18 (.t 7) (.t 57)⟩]) hourglasslaw24_txns_k1)) hourglasslaw24_txns_k2)
def hourglasslaw24_txns_k4 : LCode := (.seq (.seq (.sq [⟨some 40, none, .mv false (.t 6)⟩, ⟨some 41, none, .mv false (.t 0)⟩, ⟨some 42, none, .mv false (.t 4)⟩, ⟨some 43, none, .ixa (.sl 8) (.t 41) (.t 42)⟩, ⟨some 44, none, .shift 6 (.t 43)⟩, ⟨some 45, none, .load1 false (.t 44)⟩, ⟨some 46, none, .len .sl (.t 45)⟩, ⟨some 47, none, .bin .lss .sc (.t 40) (.t 46)⟩]) (.cond (.t 47) .skip (.exit 2))) hourglasslaw24_txns_k3)
def hourglasslaw24_txns_k5 : LCode := (.block 2 (.loop [true, false, false, true, true, true, true, false, false, false, false, false, false, false, false, false, false, false, false, false, false, false, false, false, false, false, false, false, false, false, false, false, false, false, false, false, false, false, false, false, false, false, false, false, false, false, false, false, false, false, false, false, false, false, false, false, false, false, false, false, false, false, false, false, false, false, false, false, false, false, false, false, false, false, false] hourglasslaw24_txns_k4))
def hourglasslaw24_txns_k6 : LCode := (.sq [⟨some 70, none, .mv true (.t 3)⟩, ⟨some 71, none, .loadA 8 (.t 5)⟩, ⟨some 72, none, .bsl ⟨8, true, 96, (.agg [(.s (.int .i64 0)), (.s (.int .i64 0)), (.s (.int .u8 0)), (.s (.int .i64 0)), (.s (.int .u8 0)), (.s (.bool false)), (.s .nilS), (.s .nilS)])⟩ 1 [(0, (.t 71))]⟩, ⟨some 73, none, .app ⟨8, true, 96, (.agg [(.s (.int .i64 0)), (.s (.int .i64 0)), (.s (.int .u8 0)), (.s (.int .i64 0)), (.s (.int .u8 0)), (.s (.bool false)), (.s .nilS), (.s .nilS)])⟩ false (.t 70) (.t 72)⟩, ⟨some 3, none, .mv true (.t 73)⟩])
def hourglasslaw24_txns_k7 : LCode := (.sq [⟨some 12, none, .mv false (.t 4)⟩, ⟨some 13, none, .bin .add .sc (.t 12) (.c (.int .i64 1))⟩, ⟨some 4, none, .mv true (.t 13)⟩])
def hourglasslaw24_txns_k8 : LCode := (.seq (.block 1 (.seq (.tree (.rd ⟨some 14, none, .mv false (.t 0)⟩ 0 true (.rd ⟨some 15, none, .mv false (.t 4)⟩ 1 true (.rd ⟨some 16, none, .ixa (.sl 8) (.t 14) (.t 15)⟩ 2 true (.rd ⟨some 17, none, .shift 0 (.t 16)⟩ 3 true (.rd ⟨some 18, none, .load1 false (.t 17)⟩ 4 true (.rd ⟨some 19, none, .mv false (.t 0)⟩ 5 true (.rd ⟨some 20, none, .mv false (.t 4)⟩ 6 true (.rd ⟨some 21, none, .ixa (.sl 8) (.t 19) (.t 20)⟩ 7 true (.rd ⟨some 22, none, .shift 1 (.t 21)⟩ 8 true (.rd ⟨some 23, none, .loadA 2 (.t 22)⟩ 9 true (.rd ⟨some 24, none, .mv false (.t 0)⟩ 10 true (.rd ⟨some 25, none, .mv false (.t 4)⟩ 11 true (.rd ⟨some 26, none, .ixa (.sl 8) (.t 24) (.t 25)⟩ 12 true (.rd ⟨some 27, none, .shift 3 (.t 26)⟩ 13 true (.rd ⟨some 28, none, .loadA 2 (.t 27)⟩ 14 true (.rd ⟨some 29, none, .mv false (.t 0)⟩ 15 true (.rd ⟨some 30, none, .mv false (.t 4)⟩ 16 true (.rd ⟨some 31, none, .ixa (.sl 8) (.t 29) (.t 30)⟩ 17 true (.rd ⟨some 32, none, .shift 5 (.t 31)⟩ 18 true (.rd ⟨some 33, none, .load1 false (.t 32)⟩ 19 true (.rd ⟨some 34, none, .mv false (.t 0)⟩ 20 true (.rd ⟨some 35, none, .mv false (.t 4)⟩ 21 true (.rd ⟨some 36, none, .ixa (.sl 8) (.t 34) (.t 35)⟩ 22 true (.rd ⟨some 37, none, .shift 7 (.t 36)⟩ 23 true (.rd ⟨some 38, none, .load1 false (.t 37)⟩ 24 true (.rd ⟨some 39, none, .build [(.s (.int .i64 0)), (.s (.int .i64 0)), (.s (.int .u8 0)), (.s (.int .i64 0)), (.s (.int .u8 0)), (.s (.bool false)), (.s .nilS), (.s .nilS)] [(0, 1, (.t 18)), (1, 2, (.t 23)), (3, 2, (.t 28)), (5, 1, (.t 33)), (7, 1, (.t 38))]⟩ 25 true (.mv ⟨some 5, none, .alloc false [(.s (.int .i64 0)), (.s (.int .i64 0)), (.s (.int .u8 0)), (.s (.int .i64 0)), (.s (.int .u8 0)), (.s (.bool false)), (.s .nilS), (.s .nilS)]⟩ [] (.mv ⟨none, none, .store 8 (.t 5) (.t 39)⟩ [0, 1, 2, 3, 4, 5, 6, 7, 8, 9, 10, 11, 12, 13, 14, 15, 16, 17, 18, 19, 20, 21, 22, 23, 24, 25, 26] .done .stop) .stop)))))))))))))))))))))))))))) (.seq (.seq (.sq [⟨some 6, none, .mv true (.c (.int .i64 0))⟩]) hourglasslaw24_txns_k5) hourglasslaw24_txns_k6))) hourglasslaw24_txns_k7)
def hourglasslaw24_txns_k9 : LCode := (.seq (.seq (.sq [⟨some 8, none, .mv false (.t 4)⟩, ⟨some 9, none, .mv false (.t 0)⟩, ⟨some 10, none, .len .sl (.t 9)⟩, ⟨some 11, none, .bin .lss .sc (.t 8) (.t 10)⟩]) (.cond (.t 11) .skip (.exit 0))) hourglasslaw24_txns_k8)
def hourglasslaw24_txns_k10 : LCode := (.block 0 (.loop [true, false, false, true, true, false, false, false, false, false, false, false, false, false, false, false, false, false, false, false, false, false, false, false, false, false, false, false, false, false, false, false, false, false, false, false, false, false, false, false, false, false, false, false, false, false, false, false, false, false, false, false, false, false, false, false, false, false, false, false, false, false, false, false, false, false, false, false, false, false, false, false, false, false, false] hourglasslaw24_txns_k9))
def hourglasslaw24_txns_k11 : LCode := (.seq (.seq (.sq [⟨some 4, none, .mv true (.c (.int .i64 0))⟩]) hourglasslaw24_txns_k10) (.seq (.sq [⟨some 74, none, .mv true (.t 3)⟩, ⟨some 2, none, .mv true (.t 74)⟩]) .ret))
theorem U_hourglasslaw24_txns : (((type_of% (@unfC _ _ (hourglasslaw24_txns_k1.eq_1)) ∧ type_of% (@unfC _ _ (hourglasslaw24_txns_k2.eq_1))) ∧ (type_of% (@unfC _ _ (hourglasslaw24_txns_k3.eq_1)) ∧ (type_of% (@unfC _ _ (hourglasslaw24_txns_k4.eq_1)) ∧ type_of% (@unfC _ _ (hourglasslaw24_txns_k5.eq_1))))) ∧ ((type_of% (@unfC _ _ (hourglasslaw24_txns_k6.eq_1)) ∧ (type_of% (@unfC _ _ (hourglasslaw24_txns_k7.eq_1)) ∧ type_of% (@unfC _ _ (hourglasslaw24_txns_k8.eq_1)))) ∧ (type_of% (@unfC _ _ (hourglasslaw24_txns_k9.eq_1)) ∧ (type_of% (@unfC _ _ (hourglasslaw24_txns_k10.eq_1)) ∧ type_of% (@unfC _ _ (hourglasslaw24_txns_k11.eq_1)))))) := ⟨⟨⟨@unfC _ _ (hourglasslaw24_txns_k1.eq_1), @unfC _ _ (hourglasslaw24_txns_k2.eq_1)⟩, ⟨@unfC _ _ (hourglasslaw24_txns_k3.eq_1), ⟨@unfC _ _ (hourglasslaw24_txns_k4.eq_1), @unfC _ _ (hourglasslaw24_txns_k5.eq_1)⟩⟩⟩, ⟨⟨@unfC _ _ (hourglasslaw24_txns_k6.eq_1), ⟨@unfC _ _ (hourglasslaw24_txns_k7.eq_1), @unfC _ _ (hourglasslaw24_txns_k8.eq_1)⟩⟩, ⟨@unfC _ _ (hourglasslaw24_txns_k9.eq_1), ⟨@unfC _ _ (hourglasslaw24_txns_k10.eq_1), @unfC _ _ (hourglasslaw24_txns_k11.eq_1)⟩⟩⟩⟩
def C_hourglasslaw24_txns : LFn := ⟨75, [.t 2], (.seq (.sq [⟨some 2, none, .mv true (.c .nilS)⟩]) (.seq (.sq [⟨some 3, none, .mv true (.c .nilS)⟩]) hourglasslaw24_txns_k11))⟩

-- hourglasslaw24_great: 
def hourglasslaw24_great_k1 : LCode := (.sq [⟨some 11, none, .mv false (.t 3)⟩, ⟨some 12, none, .bin .add .sc (.t 11) (.c (.int .i64 1))⟩, ⟨some 3, none, .mv true (.t 12)⟩])
def hourglasslaw24_great_k2 : LCode := (.seq (.block 1 (.seq (.sq [⟨some 13, none, .mv false (.t 0)⟩, ⟨some 14, none, .mv false (.t 3)⟩, ⟨some 15, none, .ixa (.sl 8) (.t 13) (.t 14)⟩, ⟨some 16, none, .shift 6 (.t 15)⟩, ⟨some 17, none, .load1 false (.t 16)⟩, ⟨some 18, none, .len .sl (.t 17)⟩, ⟨some 19, none, .bin .gtr .sc (.t 18) (.c (.int .i64 10))⟩, ⟨some 20, none, .mv false (.t 19)⟩, ⟨some 21, some (20, false), .mv false (.t 0)⟩, ⟨some 22, some (20, false), .mv false (.t 3)⟩, ⟨some 23, some (20, false), .ixa (.sl 8) (.t 21) (.t 22)⟩, ⟨some 24, some (20, false), .shift 7 (.t 23)⟩, ⟨some 25, some (20, false), .load1 false (.t 24)⟩, ⟨some 26, some (20, false), .len .sl (.t 25)⟩, ⟨some 27, some (20, false), .bin .gtr .sc (.t 26) (.c (.int .i64 10))⟩, ⟨some 28, none, .pick (.t 20) (.c (.bool true)) (.t 27)⟩]) (.cond (.t 28) (.seq (.sq [⟨some 2, none, .mv true (.c (.bool true))⟩]) .ret) .skip))) hourglasslaw24_great_k1)
def hourglasslaw24_great_k3 : LCode := (.seq (.seq (.sq [⟨some 7, none, .mv false (.t 3)⟩, ⟨some 8, none, .mv false (.t 0)⟩, ⟨some 9, none, .len .sl (.t 8)⟩, ⟨some 10, none, .bin .lss .sc (.t 7) (.t 9)⟩]) (.cond (.t 10) .skip (.exit 0))) hourglasslaw24_great_k2)
def hourglasslaw24_great_k4 : LCode := (.block 0 (.loop [true, false, false, true, false, false, false, false, false, false, false, false, false, false, false, false, false, false, false, false, false, false, false, false, false, false, false, false, false] hourglasslaw24_great_k3))
def hourglasslaw24_great_k5 : LCode := (.seq (.seq (.sq [⟨some 3, none, .mv true (.c (.int .i64 0))⟩]) hourglasslaw24_great_k4) (.seq (.sq [⟨some 2, none, .mv true (.c (.bool false))⟩]) .ret))
def hourglasslaw24_great_k6 : LCode := (.seq (.seq (.sq [⟨some 4, none, .mv false (.t 0)⟩, ⟨some 5, none, .len .sl (.t 4)⟩, ⟨some 6, none, .bin .gtr .sc (.t 5) (.c (.int .i64 15))⟩]) (.cond (.t 6) (.seq (.sq [⟨some 2, none, .mv true (.c (.bool true))⟩]) .ret) .skip)) hourglasslaw24_great_k5)
theorem U_hourglasslaw24_great : ((type_of% (@unfC _ _ (hourglasslaw24_great_k1.eq_1)) ∧ (type_of% (@unfC _ _ (hourglasslaw24_great_k2.eq_1)) ∧ type_of% (@unfC _ _ (hourglasslaw24_great_k3.eq_1)))) ∧ (type_of% (@unfC _ _ (hourglasslaw24_great_k4.eq_1)) ∧ (type_of% (@unfC _ _ (hourglasslaw24_great_k5.eq_1)) ∧ type_of% (@unfC _ _ (hourglasslaw24_great_k6.eq_1))))) := ⟨⟨@unfC _ _ (hourglasslaw24_great_k1.eq_1), ⟨@unfC _ _ (hourglasslaw24_great_k2.eq_1), @unfC _ _ (hourglasslaw24_great_k3.eq_1)⟩⟩, ⟨@unfC _ _ (hourglasslaw24_great_k4.eq_1), ⟨@unfC _ _ (hourglasslaw24_great_k5.eq_1), @unfC _ _ (hourglasslaw24_great_k6.eq_1)⟩⟩⟩
def C_hourglasslaw24_great : LFn := ⟨29, [.t 2], (.seq (.sq [⟨some 2, none, .mv true (.c (.bool false))⟩]) hourglasslaw24_great_k6)⟩

-- hourglasslaw24_at: 
def hourglasslaw24_at_k1 : LCode := (.seq (.sq [⟨some 3, none, .mv false (.t 0)⟩, ⟨some 4, none, .build [(.s (.int .i64 0)), (.s (.int .u8 0))] [(0, 1, (.t 3))]⟩, ⟨none, none, .store 2 (.t 2) (.t 4)⟩]) .ret)
theorem U_hourglasslaw24_at : type_of% (@unfC _ _ (hourglasslaw24_at_k1.eq_1)) := @unfC _ _ (hourglasslaw24_at_k1.eq_1)
def C_hourglasslaw24_at : LFn := ⟨5, [.many 2 2], (.seq (.sq [⟨some 2, none, .alloc false [(.s (.int .i64 0)), (.s (.int .u8 0))]⟩]) hourglasslaw24_at_k1)⟩

-- hourglasslaw24_k: 0=hourglassref10_Of
def hourglasslaw24_k_k1 (c : Nat → FuncId) : LCode := (.seq (.sq [⟨some 6, none, .mv false (.t 0)⟩, ⟨some 7, none, .call (.f (c 0)) [(.t 6)]⟩, ⟨some 5, none, .mv false (.t 7)⟩, ⟨some 8, none, .ext (.t 5) 0⟩, ⟨some 9, none, .ext (.t 5) 1⟩, ⟨some 3, none, .alloc false zk⟩, ⟨none, none, .store 16 (.t 3) (.t 8)⟩, ⟨some 4, none, .mv true (.t 9)⟩]) (.seq (.sq [⟨some 10, none, .loadA 16 (.t 3)⟩, ⟨none, none, .store 16 (.t 2) (.t 10)⟩]) .ret))
theorem U_hourglasslaw24_k (c : Nat → FuncId) : type_of% (@unfC _ _ (hourglasslaw24_k_k1.eq_1 c)) := @unfC _ _ (hourglasslaw24_k_k1.eq_1 c)
def C_hourglasslaw24_k (c : Nat → FuncId) : LFn := ⟨11, [.many 2 16], (.seq (.sq [⟨some 2, none, .alloc false zk⟩]) (hourglasslaw24_k_k1 c))⟩

-- hourglasslaw24_of: 0=hourglasslaw24_at 1=hourglasslaw24_k
def hourglasslaw24_of_k1 (c : Nat → FuncId) : LCode := (.seq (.sq [⟨some 11, none, .mv false (.t 0)⟩, ⟨some 12, none, .mv false (.t 1)⟩, ⟨some 13, none, .call (.f (c 0)) [(.t 12)]⟩, ⟨some 14, none, .mv false (.t 2)⟩, ⟨some 15, none, .call (.f (c 0)) [(.t 14)]⟩, ⟨some 16, none, .mv false (.t 3)⟩, ⟨some 17, none, .call (.f (c 1)) [(.t 16)]⟩, ⟨some 18, none, .mv false (.t 4)⟩, ⟨some 19, none, .build (zk ++ [(.s (.str [])), (.s (.bool false))]) [(0, 16, (.t 17)), (16, 1, (.t 18))]⟩, ⟨some 20, none, .bsl ⟨18, true, 40, (.agg (zk ++ [(.s (.str [])), (.s (.bool false))]))⟩ 1 [(0, (.t 19))]⟩, ⟨some 21, none, .build [(.s (.int .i64 0)), (.s (.int .i64 0)), (.s (.int .u8 0)), (.s (.int .i64 0)), (.s (.int .u8 0)), (.s (.bool false)), (.s .nilS), (.s .nilS)] [(0, 1, (.t 11)), (1, 2, (.t 13)), (3, 2, (.t 15)), (5, 1, (.c (.bool true))), (7, 1, (.t 20))]⟩, ⟨none, none, .store 8 (.t 10) (.t 21)⟩]) .ret)
theorem U_hourglasslaw24_of (c : Nat → FuncId) : type_of% (@unfC _ _ (hourglasslaw24_of_k1.eq_1 c)) := @unfC _ _ (hourglasslaw24_of_k1.eq_1 c)
def C_hourglasslaw24_of (c : Nat → FuncId) : LFn := ⟨22, [.many 10 8], (.seq (.sq [⟨some 10, none, .alloc false [(.s (.int .i64 0)), (.s (.int .i64 0)), (.s (.int .u8 0)), (.s (.int .i64 0)), (.s (.int .u8 0)), (.s (.bool false)), (.s .nilS), (.s .nilS)]⟩]) (hourglasslaw24_of_k1 c))⟩

-- hourglasslaw24_awake: 0=hourglasslaw24_of 1=hist_Check
def hourglasslaw24_awake_k1 (c : Nat → FuncId) : LCode := (.seq (.sq [⟨some 1, none, .call (.f (c 0)) [(.c (.int .i64 1)), (.c (.int .i64 0)), (.c (.int .i64 1)), (.c (.str [97])), (.c (.str [120]))]⟩, ⟨some 2, none, .call (.f (c 0)) [(.c (.int .i64 2)), (.c (.int .i64 0)), (.c (.int .i64 2)), (.c (.str [97])), (.c (.str [121]))]⟩, ⟨some 3, none, .bsl ⟨8, true, 96, (.agg [(.s (.int .i64 0)), (.s (.int .i64 0)), (.s (.int .u8 0)), (.s (.int .i64 0)), (.s (.int .u8 0)), (.s (.bool false)), (.s .nilS), (.s .nilS)])⟩ 2 [(0, (.t 1)), (1, (.t 2))]⟩, ⟨some 4, none, .call (.f (c 1)) [(.t 3)]⟩, ⟨some 5, none, .build [(.s (.int .i64 0)), (.s (.int .i64 0)), (.s (.int .i64 0))] [(0, 1, (.c (.int .i64 3))), (1, 1, (.c (.int .i64 0))), (2, 1, (.c (.int .i64 1)))]⟩, ⟨some 6, none, .bin .eql (.leaf [.int .i64, .int .i64, .int .i64]) (.t 4) (.t 5)⟩, ⟨some 7, none, .mv false (.t 6)⟩, ⟨some 8, some (7, true), .call (.f (c 0)) [(.c (.int .i64 1)), (.c (.int .i64 0)), (.c (.int .i64 1)), (.c (.str [97])), (.c (.str [120]))]⟩, ⟨some 9, some (7, true), .call (.f (c 0)) [(.c (.int .i64 2)), (.c (.int .i64 1)), (.c (.int .i64 2)), (.c (.str [97])), (.c (.str [121]))]⟩, ⟨some 10, some (7, true), .bsl ⟨8, true, 96, (.agg [(.s (.int .i64 0)), (.s (.int .i64 0)), (.s (.int .u8 0)), (.s (.int .i64 0)), (.s (.int .u8 0)), (.s (.bool false)), (.s .nilS), (.s .nilS)])⟩ 2 [(0, (.t 8)), (1, (.t 9))]⟩, ⟨some 11, some (7, true), .call (.f (c 1)) [(.t 10)]⟩, ⟨some 12, some (7, true), .build [(.s (.int .i64 0)), (.s (.int .i64 0)), (.s (.int .i64 0))] [(1, 1, (.c (.int .i64 (-1)))), (2, 1, (.c (.int .i64 (-1))))]⟩, ⟨some 13, some (7, true), .bin .eql (.leaf [.int .i64, .int .i64, .int .i64]) (.t 11) (.t 12)⟩, ⟨some 14, none, .pick (.t 7) (.t 13) (.c (.bool false))⟩, ⟨some 0, none, .mv true (.t 14)⟩]) .ret)
theorem U_hourglasslaw24_awake (c : Nat → FuncId) : type_of% (@unfC _ _ (hourglasslaw24_awake_k1.eq_1 c)) := @unfC _ _ (hourglasslaw24_awake_k1.eq_1 c)
def C_hourglasslaw24_awake (c : Nat → FuncId) : LFn := ⟨15, [.t 0], (.seq (.sq [⟨some 0, none, .mv true (.c (.bool false))⟩]) (hourglasslaw24_awake_k1 c))⟩

-- hourglasslaw24_HistSays: 0=hourglasslaw24_awake 1=hourglasslaw24_great 2=hist_Check 3=hourglasslaw24_txns 4=hourglassref23_Check 5=hist_Value 6=hourglassref23_Value
def hourglasslaw24_HistSays_k1 (c : Nat → FuncId) : LCode := (.seq (.sq [⟨some 37, none, .shift 0 (.t 7)⟩, ⟨some 38, none, .load1 false (.t 37)⟩, ⟨some 39, none, .shift 0 (.t 8)⟩, ⟨some 40, none, .load1 false (.t 39)⟩, ⟨some 41, none, .bin .eql .sc (.t 38) (.t 40)⟩, ⟨some 42, none, .mv false (.t 41)⟩, ⟨some 43, some (42, true), .shift 1 (.t 7)⟩, ⟨some 44, some (42, true), .load1 false (.t 43)⟩, ⟨some 45, some (42, true), .shift 1 (.t 8)⟩, ⟨some 46, some (42, true), .load1 false (.t 45)⟩, ⟨some 47, some (42, true), .bin .eql .sc (.t 44) (.t 46)⟩, ⟨some 48, none, .pick (.t 42) (.t 47) (.c (.bool false))⟩, ⟨some 49, none, .mv false (.t 48)⟩, ⟨some 50, some (49, true), .shift 2 (.t 7)⟩, ⟨some 51, some (49, true), .load1 false (.t 50)⟩, ⟨some 52, some (49, true), .shift 2 (.t 8)⟩, ⟨some 53, some (49, true), .load1 false (.t 52)⟩, ⟨some 54, some (49, true), .bin .eql .sc (.t 51) (.t 53)⟩, ⟨some 55, none, .pick (.t 49) (.t 54) (.c (.bool false))⟩, ⟨some 56, none, .mv false (.t 55)⟩, ⟨some 57, some (56, true), .mv false (.t 9)⟩, ⟨some 58, some (56, true), .mv false (.t 11)⟩, ⟨some 59, some (56, true), .bin .eql .sc (.t 57) (.t 58)⟩, ⟨some 60, none, .pick (.t 56) (.t 59) (.c (.bool false))⟩, ⟨some 61, none, .mv false (.t 60)⟩, ⟨some 62, some (61, true), .mv false (.t 10)⟩, ⟨some 63, some (61, true), .mv false (.t 12)⟩, ⟨some 64, some (61, true), .bin .eql .bl (.t 62) (.t 63)⟩, ⟨some 65, none, .pick (.t 61) (.t 64) (.c (.bool false))⟩, ⟨some 6, none, .mv true (.t 65)⟩]) .ret)
def hourglasslaw24_HistSays_k2 (c : Nat → FuncId) : LCode := (.seq (.tree (.rd ⟨some 32, none, .loadA 16 (.t 4)⟩ 2 true (.rd ⟨some 33, none, .loadA 2 (.t 5)⟩ 3 true (.mv ⟨some 30, none, .mv true (.t 0)⟩ [] (.mv ⟨some 31, none, .call (.f (c 3)) [(.t 30)]⟩ [0] (.mv ⟨some 34, none, .call (.f (c 6)) [(.t 31), (.t 32), (.t 33)]⟩ [0, 1, 2, 3] (.rd ⟨some 29, none, .mv false (.t 34)⟩ 5 false (.rd ⟨some 35, none, .ext (.t 29) 0⟩ 6 false (.rd ⟨some 36, none, .ext (.t 29) 1⟩ 7 true (.mv ⟨some 11, none, .mv true (.t 35)⟩ [0, 1, 2, 3, 4, 5, 6] (.mv ⟨some 12, none, .mv true (.t 36)⟩ [0, 1, 2, 3, 4, 5, 6, 7, 8] .done .stop) .stop)))) .stop) .stop) .stop)))) (hourglasslaw24_HistSays_k1 c))
def hourglasslaw24_HistSays_k3 (c : Nat → FuncId) : LCode := (.seq (.sq [⟨some 23, none, .mv false (.t 0)⟩, ⟨some 24, none, .loadA 16 (.t 4)⟩, ⟨some 25, none, .loadA 2 (.t 5)⟩, ⟨some 26, none, .call (.f (c 5)) [(.t 23), (.t 24), (.t 25)]⟩, ⟨some 22, none, .mv false (.t 26)⟩, ⟨some 27, none, .ext (.t 22) 0⟩, ⟨some 28, none, .ext (.t 22) 1⟩, ⟨some 9, none, .mv true (.t 27)⟩, ⟨some 10, none, .mv true (.t 28)⟩]) (hourglasslaw24_HistSays_k2 c))
def hourglasslaw24_HistSays_k4 (c : Nat → FuncId) : LCode := (.seq (.sq [⟨some 19, none, .mv false (.t 0)⟩, ⟨some 20, none, .call (.f (c 3)) [(.t 19)]⟩, ⟨some 21, none, .call (.f (c 4)) [(.t 20)]⟩, ⟨some 8, none, .alloc false [(.s (.int .i64 0)), (.s (.int .i64 0)), (.s (.int .i64 0))]⟩, ⟨none, none, .store 3 (.t 8) (.t 21)⟩]) (hourglasslaw24_HistSays_k3 c))
def hourglasslaw24_HistSays_k5 (c : Nat → FuncId) : LCode := (.seq (.sq [⟨some 17, none, .mv false (.t 0)⟩, ⟨some 18, none, .call (.f (c 2)) [(.t 17)]⟩, ⟨some 7, none, .alloc false [(.s (.int .i64 0)), (.s (.int .i64 0)), (.s (.int .i64 0))]⟩, ⟨none, none, .store 3 (.t 7) (.t 18)⟩]) (hourglasslaw24_HistSays_k4 c))
def hourglasslaw24_HistSays_k6 (c : Nat → FuncId) : LCode := (.seq (.seq (.sq [⟨some 15, none, .mv false (.t 0)⟩, ⟨some 16, none, .call (.f (c 1)) [(.t 15)]⟩]) (.cond (.t 16) (.seq (.sq [⟨some 6, none, .mv true (.c (.bool true))⟩]) .ret) .skip)) (hourglasslaw24_HistSays_k5 c))
def hourglasslaw24_HistSays_k7 (c : Nat → FuncId) : LCode := (.seq (.seq (.sq [⟨some 13, none, .call (.f (c 0)) []⟩, ⟨some 14, none, .un .not (.t 13)⟩]) (.cond (.t 14) (.seq (.sq [⟨some 6, none, .mv true (.c (.bool false))⟩]) .ret) .skip)) (hourglasslaw24_HistSays_k6 c))
theorem U_hourglasslaw24_HistSays (c : Nat → FuncId) : ((type_of% (@unfC _ _ (hourglasslaw24_HistSays_k1.eq_1 c)) ∧ (type_of% (@unfC _ _ (hourglasslaw24_HistSays_k2.eq_1 c)) ∧ type_of% (@unfC _ _ (hourglasslaw24_HistSays_k3.eq_1 c)))) ∧ ((type_of% (@unfC _ _ (hourglasslaw24_HistSays_k4.eq_1 c)) ∧ type_of% (@unfC _ _ (hourglasslaw24_HistSays_k5.eq_1 c))) ∧ (type_of% (@unfC _ _ (hourglasslaw24_HistSays_k6.eq_1 c)) ∧ type_of% (@unfC _ _ (hourglasslaw24_HistSays_k7.eq_1 c))))) := ⟨⟨@unfC _ _ (hourglasslaw24_HistSays_k1.eq_1 c), ⟨@unfC _ _ (hourglasslaw24_HistSays_k2.eq_1 c), @unfC _ _ (hourglasslaw24_HistSays_k3.eq_1 c)⟩⟩, ⟨⟨@unfC _ _ (hourglasslaw24_HistSays_k4.eq_1 c), @unfC _ _ (hourglasslaw24_HistSays_k5.eq_1 c)⟩, ⟨@unfC _ _ (hourglasslaw24_HistSays_k6.eq_1 c), @unfC _ _ (hourglasslaw24_HistSays_k7.eq_1 c)⟩⟩⟩
def C_hourglasslaw24_HistSays (c : Nat → FuncId) : LFn := ⟨66, [.t 6], (.seq (.sq [⟨some 4, none, .box false false (.t 1)⟩, ⟨some 5, none, .box false false (.t 2)⟩, ⟨some 6, none, .mv true (.c (.bool false))⟩]) (hourglasslaw24_HistSays_k7 c))⟩

-- hourglasslaw24_HistOrder: 0=hourglasslaw24_awake 1=hourglasslaw24_great 2=hist_Check
-- hourglasslaw24_HistLess: 0=hourglasslaw24_awake 1=hourglasslaw24_great 2=hist_Check 3=hourglasslaw24_at 4=hourglassref6_Good
end Go.AM
/-! Lists of writes that lie in cells of the heap. -/
namespace Go.AM
open Go
set_option linter.unusedVariables false

def slO (ws : List Wr) : AV := if ws = [] then .s .nilS else .list .own 18 (ws.map wA)
theorem slO_own {ws : List Wr} (h : ws ≠ []) : slO ws = .list .own 18 (ws.map wA) := if_neg h
theorem app_nilW {e : ET} {w : Wr} {σ : St} (h1 : e.c = 18) (h2 : e.bytes = 40) : appendL e false (.s .nilS) (.list .full 18 [.agg (wc w)]) σ = some (.list .uniq 18 [.agg (wc w)], σ) := by
  show appendL e false (.s .nilS) (.list .full 18 [wA w]) σ = some (.list .uniq 18 [wA w], σ)
  have he : elemsL e (.list .full 18 [wA w]) σ = some [wA w] := by simp [elemsL, h1]
  have hu : AV.under.go 0 [wA w] = true := by simp [AV.under.go, wA_under]
  simp [appendL, srcL, AV.isSlice, he, hu, appItems, h1, h2]
theorem app_ownW {e : ET} {w : Wr} {ws : List Wr} {σ : St} (h1 : e.c = 18) (h2 : e.bytes = 40) (hl : ws.length ≤ 1000000) : appendL e false (.list .own 18 (ws.map wA)) (.list .full 18 [.agg (wc w)]) σ = some (.list .own 18 ((ws ++ [w]).map wA), σ) := by
  show appendL e false (.list .own 18 (ws.map wA)) (.list .full 18 [wA w]) σ = some (.list .own 18 ((ws ++ [w]).map wA), σ)
  have he : elemsL e (.list .full 18 [wA w]) σ = some [wA w] := by simp [elemsL, h1]
  have hu : AV.under.go 0 [wA w] = true := by simp [AV.under.go, wA_under]
  have : 2 * (ws.length + 1) * 40 ≤ 2 ^ 48 := by omega
  simp [appendL, srcL, AV.isSlice, he, hu, appItems, h1, h2]
  omega
end Go.AM
/-! More of what operations yield. -/
namespace Go.AM
open Go
set_option linter.unusedVariables false
theorem lenL_row {σ : St} {r : Ref} {off len cap : Nat} : lenL .sl (.row r off len cap) σ = some len := rfl
theorem lenL_nilS {σ : St} : lenL .sl (.s .nilS) σ = some 0 := rfl
theorem ixr_n {r : Ref} {off len cap i c : Nat} {k : IntKind} (h : i < len) (hc : c ≠ 0) : indexAddrL (.sl c) (.row r off len cap) (.s (.int k (i : Int))) = some (.ptr r (off + i * c)) := by
  have h1 : (0 : Int) ≤ i := by omega
  have h2 : (i : Int) < len := by omega
  simp [indexAddrL, h1, h2, hc]
end Go.AM
/-! Ranges over functions, symbolically. -/
namespace Go.AM
open Go
set_option linter.unusedVariables false

def loopO : Option HObj → Option LoopA
  | some (.loop l) => some l
  | _ => none
theorem loopOf_eq {S : List (List AV)} {H : List HObj} {h : Nat} : loopOf ⟨S, H⟩ h = loopO H[h]? := by
  show (match H[h]? with | some (.loop l) => some l | _ => none) = _
  cases H[h]? with
  | none => rfl
  | some o => cases o <;> rfl
theorem loopO_some {l : LoopA} : loopO (some (.loop l)) = some l := rfl

section
variable {C : CallW} {P : Program} {rd : Bool}

/-- Behind a round's body. -/
def rnd2' (h base : Nat) (K : AV → St → Prop) (e : Ex) (S : List (List AV)) (H : List HObj) : Option LoopA → Prop
  | some l => K (.bool (decide (e = .normal))) ⟨S.take base, H.set h (.loop { l with ready := decide (e = .normal), pending := if e = .normal then none else some e })⟩
  | none => False
def rnd2 (h base : Nat) (K : AV → St → Prop) : KC := fun e _ σ => rnd2' h base K e σ.stk σ.heap (loopOf σ h)
/-- Between a round's assignment and its body. -/
def rnd1' (C : CallW) (P : Program) (B : LCode) (h base : Nat) (K : AV → St → Prop) (fr : Fr) (S : List (List AV)) (H : List HObj) : Option LoopA → Prop
  | some l => l.ready = true ∧ l.pending = none ∧ runC C P true B [] fr ⟨S, H.set h (.loop { l with ready := false })⟩ (rnd2 h base K)
  | none => False
def rnd1 (C : CallW) (P : Program) (B : LCode) (h base : Nat) (K : AV → St → Prop) : KC := fun e fr σ => e = .normal ∧ rnd1' C P B h base K fr σ.stk σ.heap (loopOf σ h)
theorem rnd1_n {B h base K fr S H} : rnd1 C P B h base K .normal fr ⟨S, H⟩ = rnd1' C P B h base K fr S H (loopO H[h]?) := by
  unfold rnd1; rw [loopOf_eq]; simp
theorem rnd1_some {B h base K fr S H fid fr0 ps a b} : rnd1' C P B h base K fr S H (some ⟨fid, fr0, ps, a, b, true, none⟩) = runC C P true B [] fr ⟨S, H.set h (.loop ⟨fid, fr0, ps, a, b, false, none⟩)⟩ (rnd2 h base K) := by
  simp [rnd1']
theorem rnd2_e {h base K e fr S H} : rnd2 h base K e fr ⟨S, H⟩ = rnd2' h base K e S H (loopO H[h]?) := by
  unfold rnd2; rw [loopOf_eq]
theorem rnd2_norm {h base K S H fid fr0 ps a b r p} : rnd2' h base K .normal S H (some ⟨fid, fr0, ps, a, b, r, p⟩) = K (.bool true) ⟨S.take base, H.set h (.loop ⟨fid, fr0, ps, a, b, true, none⟩)⟩ := (rfl)
theorem rnd2_ret {h base K S H fid fr0 ps a b r p} : rnd2' h base K .ret S H (some ⟨fid, fr0, ps, a, b, r, p⟩) = K (.bool false) ⟨S.take base, H.set h (.loop ⟨fid, fr0, ps, a, b, false, some .ret⟩)⟩ := (rfl)
theorem rnd2_exit {h base K S H fid fr0 ps a b r p id} : rnd2' h base K (.exit id) S H (some ⟨fid, fr0, ps, a, b, r, p⟩) = K (.bool false) ⟨S.take base, H.set h (.loop ⟨fid, fr0, ps, a, b, false, some (.exit id)⟩)⟩ := (rfl)

/-- What a round of a loop does: its code, lowered. -/
def RoundOK (C : CallW) (P : Program) (f : FuncId) (as bd : Code) (A B : LCode) : Prop :=
  ∀ (h : Nat) (fr0 : Fr) (ps : List Tmp) (args : List AV) (S : List (List AV)) (H : List HObj) (K : AV → St → Prop), H[h]? = some (.loop ⟨f, fr0, ps, as, bd, true, none⟩) → args.length = ps.length →
    runC C P true A [] (setAll ps (args.map AV.look) fr0) ⟨S, H⟩ (rnd1 C P B h S.length K) → C (.yield h) args ⟨S, H⟩ K

/-! A range over a function, from the caller's side -/
def rfE (C : CallW) (P : Program) (rd : Bool) (is : List Item) (K : KC) (fr : Fr) (n : Nat) (S : List (List AV)) (H : List HObj) : Option LoopA → Prop
  | some l => (l.ready || l.pending.isSome) = true ∧ contK C P rd is K (l.pending.getD .normal) fr ⟨S, H.set n .dead⟩
  | none => False
def rfK (C : CallW) (P : Program) (rd : Bool) (is : List Item) (K : KC) (fr : Fr) (n : Nat) : AV → St → Prop := fun _ σ => rfE C P rd is K fr n σ.stk σ.heap (loopO σ.heap[n]?)
theorem rfK_eq {is K fr n v S H} : rfK C P rd is K fr n v ⟨S, H⟩ = rfE C P rd is K fr n S H (loopO H[n]?) := (rfl)
theorem rfE_norm {is K fr n S H fid fr0 ps a b} : rfE C P rd is K fr n S H (some ⟨fid, fr0, ps, a, b, true, none⟩) = nxt C P rd is fr ⟨S, H.set n .dead⟩ K := by simp [rfE, nxt]
theorem rfE_ret {is K fr n S H fid fr0 ps a b r} : rfE C P rd is K fr n S H (some ⟨fid, fr0, ps, a, b, r, some .ret⟩) = rtn C P rd is fr ⟨S, H.set n .dead⟩ K := by simp [rfE, rtn]
theorem rfE_exit {is K fr n S H fid fr0 ps a b r id} : rfE C P rd is K fr n S H (some ⟨fid, fr0, ps, a, b, r, some (.exit id)⟩) = ext C P rd id is fr ⟨S, H.set n .dead⟩ K := by simp [rfE, ext]

def rfn (C : CallW) (P : Program) (rd : Bool) (f : FuncId) (ps : Array Tmp) (a b : Code) (is : List Item) (fr : Fr) (S : List (List AV)) (H : List HObj) (K : KC) : AV → Prop
  | .fn (.func h) first captured => hasBody P h = true ∧ C (.fn h) (first ++ [.yield H.length] ++ captured) ⟨S, H ++ [.loop ⟨f, fr.map lasting, ps.toList, a, b, true, none⟩]⟩ (rfK C P rd is K fr H.length)
  | _ => False
theorem runC_rfun {g f ps a b is fr S H K} : runC C P false (.rfun g f ps a b) is fr ⟨S, H⟩ K = rfn C P false f ps a b is fr S H K (seL fr g) := by
  show (false = false ∧ (match seL fr g with | .fn (.func h) first captured => _ | _ => False)) = _
  simp only [true_and]
  cases hs : seL fr g with
  | fn fn first captured =>
    cases fn with
    | func h =>
      show (_ ∧ _) = (_ ∧ _)
      refine congr (congrArg And rfl) ?_
      refine congrArg (C (.fn h) (first ++ [.yield H.length] ++ captured) ⟨S, H ++ [.loop ⟨f, fr.map lasting, ps.toList, a, b, true, none⟩]⟩) ?_
      funext v σ'
      show (match σ'.heap[H.length]? with | some (.loop l) => _ | _ => False) = rfE C P false is K fr H.length σ'.stk σ'.heap (loopO σ'.heap[H.length]?)
      cases σ'.heap[H.length]? with
      | none => rfl
      | some o => cases o <;> rfl
    | _ => rfl
  | _ => rfl
theorem rfn_fn {f ps a b is fr S H K h first captured} : rfn C P rd f ps a b is fr S H K (.fn (.func h) first captured) = (hasBody P h = true ∧ C (.fn h) (first ++ [.yield H.length] ++ captured) ⟨S, H ++ [.loop ⟨f, fr.map lasting, ps.toList, a, b, true, none⟩]⟩ (rfK C P rd is K fr H.length)) := (rfl)
end

/-- The bodies of a function's ranges over functions. -/
def rfsOf : Code → List (Code × Code)
  | .seq a b => rfsOf a ++ rfsOf b
  | .cond _ a b => rfsOf a ++ rfsOf b
  | .block _ b => rfsOf b
  | .loop b => rfsOf b
  | .rangeFunc _ _ a b => [(a, b)]
  | _ => []
def rfAt (P : Program) (f : FuncId) (i : Nat) : Code × Code :=
  match P.funcs[f]? with
  | some fn => match fn.body with
    | some c => (rfsOf c).getD i (.skip, .skip)
    | none => (.skip, .skip)
  | none => (.skip, .skip)

/-- The rule for rounds, of all calls. -/
theorem roundE {P : Program} {cfg : Cfg} {tr : Trees} {f : FuncId} {as bd : Code} {A B : LCode} (t1 : treesIn cfg tr f as = true) (t2 : treesIn cfg tr f bd = true) (hA : lowCode P cfg tr f 0 as = A) (hB : lowCode P cfg tr f 0 bd = B) : RoundOK (EvW P cfg tr) P f as bd A B := by
  intro h fr0 ps args S H K hl ha hr
  refine EvW.fold ?_
  show roundW (EvW P cfg tr) P cfg tr h args ⟨S, H⟩ K
  have hlo : loopOf ⟨S, H⟩ h = some ⟨f, fr0, ps, as, bd, true, none⟩ := by rw [loopOf_eq, hl]; rfl
  unfold roundW
  rw [hlo]
  refine ⟨ha, t1, t2, ?_⟩
  subst hA; subst hB
  refine codeW_mono EvW.le as (fun e fr σ1 hk => ?_) (execL_ok EvW.le as 0 _ _ _ hr)
  obtain ⟨he, hk⟩ := hk
  refine ⟨he, ?_⟩
  unfold rnd1' at hk
  cases hl1 : loopOf σ1 h with
  | none => rw [hl1] at hk; exact hk.elim
  | some l1 =>
    rw [hl1] at hk
    obtain ⟨h1, h2, h3⟩ := hk
    refine ⟨h1, h2, ?_⟩
    refine codeW_mono EvW.le bd (fun e fr σ2 hk => ?_) (execL_ok EvW.le bd 0 _ _ _ h3)
    unfold contK rnd2 rnd2' at hk
    cases hl2 : loopOf σ2 h with
    | none => rw [hl2] at hk; exact hk.elim
    | some l2 => rw [hl2] at hk; exact hk
end Go.AM
