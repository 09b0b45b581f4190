import Derived.Test.YtokgblddddfhnaaM9
/-! Running lowered code at symbolic values: what is still to be run is data. -/
namespace Go.AM
open Go
set_option linter.unusedVariables false

/-- What is still to be run. -/
inductive Item where
  | c (x : LCode)
  | blk (id : Nat)
  | lp (mask : List Bool) (b : LCode) (n0 : Nat)

def contK (C : CallW) (P : Program) (rd : Bool) : List Item → KC → KC
  | [], K => K
  | .c x :: is, K => roundK (fun fr σ => execL C P rd x fr σ (contK C P rd is K)) (contK C P rd is K)
  | .blk id :: is, K => blockK id (contK C P rd is K)
  | .lp mask b n0 :: is, K => roundK (fun fr σ => loopW (execL C P rd b) mask n0 fr σ (contK C P rd is K)) (contK C P rd is K)

section
variable {C : CallW} {P : Program} {rd : Bool}

def runC (C : CallW) (P : Program) (rd : Bool) (x : LCode) (is : List Item) (fr : Fr) (σ : St) (K : KC) : Prop := execL C P rd x fr σ (contK C P rd is K)
def nxt (C : CallW) (P : Program) (rd : Bool) (is : List Item) (fr : Fr) (σ : St) (K : KC) : Prop := contK C P rd is K .normal fr σ
def ext (C : CallW) (P : Program) (rd : Bool) (id : Nat) (is : List Item) (fr : Fr) (σ : St) (K : KC) : Prop := contK C P rd is K (.exit id) fr σ
def rtn (C : CallW) (P : Program) (rd : Bool) (is : List Item) (fr : Fr) (σ : St) (K : KC) : Prop := contK C P rd is K .ret fr σ
def runS (C : CallW) (P : Program) (rd : Bool) (l : List LStep) (is : List Item) (fr : Fr) (σ : St) (K : KC) : Prop := seqL C l fr σ (contK C P rd is K .normal)
def runT (C : CallW) (P : Program) (rd : Bool) (t : LT) (chk : List LChk) (is : List Item) (fr : Fr) (σ : St) (K : KC) : Prop := planL C t fr σ chk (contK C P rd is K .normal)
def runLp (C : CallW) (P : Program) (rd : Bool) (mask : List Bool) (b : LCode) (n0 : Nat) (is : List Item) (fr : Fr) (σ : St) (K : KC) : Prop := loopW (execL C P rd b) mask n0 fr σ (contK C P rd is K)

def cnd (C : CallW) (P : Program) (rd : Bool) (v : AV) (a b : LCode) (is : List Item) (fr : Fr) (σ : St) (K : KC) : Prop :=
  match v with
  | .s (.bool x) => (x = true → runC C P rd a is fr σ K) ∧ (x = false → runC C P rd b is fr σ K)
  | _ => False

theorem runC_skip {is fr σ K} : runC C P rd .skip is fr σ K = nxt C P rd is fr σ K := (rfl)
theorem runC_sq {l is fr σ K} : runC C P rd (.sq l) is fr σ K = runS C P rd l is fr σ K := (rfl)
theorem runC_tree {t is fr σ K} : runC C P rd (.tree t) is fr σ K = runT C P rd t [] is fr σ K := (rfl)
theorem runC_seq {a b is fr σ K} : runC C P rd (.seq a b) is fr σ K = runC C P rd a (.c b :: is) fr σ K := (rfl)
theorem runC_cond {c a b is fr σ K} : runC C P rd (.cond c a b) is fr σ K = cnd C P rd (opL fr c) a b is fr σ K := by
  show (match opL fr c with | .s (.bool x) => _ | _ => False) = _
  rfl
theorem runC_block {id b is fr σ K} : runC C P rd (.block id b) is fr σ K = runC C P rd b (.blk id :: is) fr σ K := (rfl)
theorem runC_loop {m b is fr S H K} : runC C P rd (.loop m b) is fr ⟨S, H⟩ K = runLp C P rd m b S.length is fr ⟨S, H⟩ K := (rfl)
theorem runC_exit {id is fr σ K} : runC C P rd (.exit id) is fr σ K = ext C P rd id is fr σ K := (rfl)
theorem runC_ret {is fr σ K} : runC C P rd .ret is fr σ K = rtn C P rd is fr σ K := (rfl)
theorem cnd_true {a b is fr σ K} : cnd C P rd (.s (.bool true)) a b is fr σ K = runC C P rd a is fr σ K := by simp [cnd]
theorem cnd_false {a b is fr σ K} : cnd C P rd (.s (.bool false)) a b is fr σ K = runC C P rd b is fr σ K := by simp [cnd]
theorem nxt_nil {fr σ K} : nxt C P rd [] fr σ K = K .normal fr σ := (rfl)
theorem nxt_c {x is fr σ K} : nxt C P rd (.c x :: is) fr σ K = runC C P rd x is fr σ K := (rfl)
theorem nxt_blk {id is fr σ K} : nxt C P rd (.blk id :: is) fr σ K = nxt C P rd is fr σ K := (rfl)
theorem nxt_lp {m b n0 is fr σ K} : nxt C P rd (.lp m b n0 :: is) fr σ K = runLp C P rd m b n0 is fr σ K := (rfl)
theorem ext_nil {id fr σ K} : ext C P rd id [] fr σ K = K (.exit id) fr σ := (rfl)
theorem ext_c {id x is fr σ K} : ext C P rd id (.c x :: is) fr σ K = ext C P rd id is fr σ K := (rfl)
theorem ext_blk {id id' is fr σ K} : ext C P rd id (.blk id' :: is) fr σ K = if id = id' then nxt C P rd is fr σ K else ext C P rd id is fr σ K := (rfl)
theorem ext_lp {id m b n0 is fr σ K} : ext C P rd id (.lp m b n0 :: is) fr σ K = ext C P rd id is fr σ K := (rfl)
theorem rtn_nil {fr σ K} : rtn C P rd [] fr σ K = K .ret fr σ := (rfl)
theorem rtn_c {x is fr σ K} : rtn C P rd (.c x :: is) fr σ K = rtn C P rd is fr σ K := (rfl)
theorem rtn_blk {id is fr σ K} : rtn C P rd (.blk id :: is) fr σ K = rtn C P rd is fr σ K := (rfl)
theorem rtn_lp {m b n0 is fr σ K} : rtn C P rd (.lp m b n0 :: is) fr σ K = rtn C P rd is fr σ K := (rfl)

/-- Behind an operation. -/
def thn (C : CallW) (P : Program) (rd : Bool) (d : Option Nat) (l : List LStep) (is : List Item) (K : KC) : Option (AV × Fr × St) → Prop
  | some (v, fr, σ) => runS C P rd l is (putA d v fr) σ K
  | none => False

/-- Behind a call. -/
def bak (C : CallW) (P : Program) (rd : Bool) (d : Option Nat) (l : List LStep) (is : List Item) (K : KC) (fr : Fr) (v : AV) (σ : St) : Prop := runS C P rd l is (putA d v fr) σ K

def call (C : CallW) (P : Program) (rd : Bool) (d : Option Nat) (l : List LStep) (is : List Item) (K : KC) (σ : St) (g : AV) (r : List AV × Fr) : Prop :=
  match g with
  | .fn (.func h) first captured => C (.fn h) (first ++ r.1 ++ captured) σ (bak C P rd d l is K r.2)
  | .yield h => C (.yield h) r.1 σ (bak C P rd d l is K r.2)
  | _ => False

def mayb : LOp → Fr → Bool
  | .bin op (.ref 1) x y, fr => isEq op && maybeNil (seL fr x) (seL fr y)
  | _, _ => false

/-- Of what is not known both must be borne. -/
def mb (C : CallW) (P : Program) (rd : Bool) (d : Option Nat) (l : List LStep) (is : List Item) (K : KC) (fr : Fr) (σ : St) (q : Prop) : Bool → Prop
  | true => ∀ b, runS C P rd l is (putA d (.bool b) fr) σ K
  | false => q

/-- An operation, and what is behind it. -/
def opS (C : CallW) (P : Program) (rd : Bool) (d : Option Nat) (op : LOp) (l : List LStep) (is : List Item) (fr : Fr) (σ : St) (K : KC) : Prop :=
  mb C P rd d l is K fr σ (doL C op (settleL fr (settledL op)) σ fun v fr' σ' => runS C P rd l is (putA d v fr') σ' K) (mayb op fr)

/-- Under a guard. -/
def grd (C : CallW) (P : Program) (rd : Bool) (d : Option Nat) (op : LOp) (l : List LStep) (is : List Item) (fr : Fr) (σ : St) (K : KC) : Option Bool → Prop
  | some g => (g = true → opS C P rd d op l is fr σ K) ∧ (g = false → runS C P rd l is (putA d (.tup []) fr) σ K)
  | none => False

theorem runS_nil {is fr σ K} : runS C P rd [] is fr σ K = nxt C P rd is fr σ K := (rfl)
theorem runS_op {d op l is fr σ K} : runS C P rd (⟨d, none, op⟩ :: l) is fr σ K = opS C P rd d op l is fr σ K := by
  have e : maybeS ⟨d, none, op⟩ fr = mayb op fr := by
    unfold maybeS mayb
    split
    · rename_i h; dsimp only at h; subst h; simp [guardL]
    · rename_i h
      split
      · rename_i h'; exact (h _ _ _ rfl).elim
      · rfl
  simp only [runS, seqL, opS, e]
  cases mayb op fr with
  | true => rfl
  | false => simp only [stepL, guardL, mb, true_implies, reduceCtorEq, false_implies, and_true, runS]
theorem runS_grd {d j w op l is fr σ K} : runS C P rd (⟨d, some (j, w), op⟩ :: l) is fr σ K = grd C P rd d op l is fr σ K (guardL fr (some (j, w))) := by
  have e : maybeS ⟨d, some (j, w), op⟩ fr = (mayb op fr && (guardL fr (some (j, w))) == some true) := by
    unfold maybeS mayb
    split
    · rename_i h; dsimp only at h; subst h
      cases hg : guardL fr (some (j, w)) with
      | none => simp
      | some b => cases b <;> simp
    · rename_i h
      split
      · rename_i h'; exact (h _ _ _ rfl).elim
      · rfl
  simp only [runS, seqL, e]
  cases hg : guardL fr (some (j, w)) with
  | none =>
    rw [show (mayb op fr && (none : Option Bool) == some true) = false by simp]
    simp only [stepL, hg, grd]
  | some b =>
    cases b with
    | false =>
      rw [show (mayb op fr && some false == some true) = false by simp]
      simp only [stepL, hg, grd, reduceCtorEq, false_implies, true_implies, true_and, runS]
    | true =>
      rw [show (mayb op fr && some true == some true) = mayb op fr by simp]
      simp only [grd, reduceCtorEq, false_implies, true_implies, and_true, opS]
      cases mayb op fr with
      | true => rfl
      | false => simp only [stepL, hg, mb, true_implies, reduceCtorEq, false_implies, and_true, runS]
theorem grd_true {d op l is fr σ K} : grd C P rd d op l is fr σ K (some true) = opS C P rd d op l is fr σ K := by simp [grd]
theorem grd_false {d op l is fr σ K} : grd C P rd d op l is fr σ K (some false) = runS C P rd l is (putA d (.tup []) fr) σ K := by simp [grd]

theorem opS_plain {d op l is fr σ K} (hp : op.plain = true) (hm : mayb op fr = false) : opS C P rd d op l is fr σ K = thn C P rd d l is K (evL op (settleL fr (settledL op)) σ) := by
  unfold opS
  rw [doL_plain hp, hm]
  show (match evL op (settleL fr (settledL op)) σ with | some r => _ | none => False) = _
  cases evL op (settleL fr (settledL op)) σ <;> rfl

theorem thn_some {d l is K v fr σ} : thn C P rd d l is K (some (v, fr, σ)) = runS C P rd l is (putA d v fr) σ K := (rfl)

theorem opS_call {d g args l is fr σ K} : opS C P rd d (.call g args) l is fr σ K = call C P rd d l is K σ (seL fr g) (tkAllL fr args) := by
  unfold opS call
  rw [show mayb (.call g args) fr = false from rfl]
  simp only [mb]
  unfold doL
  simp only [settledL, settleL]
  cases seL fr g with
  | fn fn a c => cases fn <;> rfl
  | _ => rfl
theorem call_fn {d l is K σ h a c vs fr} : call C P rd d l is K σ (.fn (.func h) a c) (vs, fr) = C (.fn h) (a ++ vs ++ c) σ (bak C P rd d l is K fr) := (rfl)
theorem call_yield {d l is K σ h vs fr} : call C P rd d l is K σ (.yield h) (vs, fr) = C (.yield h) vs σ (bak C P rd d l is K fr) := (rfl)
theorem bak_eq {d l is K fr v σ} : bak C P rd d l is K fr v σ = runS C P rd l is (putA d v fr) σ K := (rfl)

/-! The operations, one by one -/
theorem e_mv {d tk x l is fr σ K} : opS C P rd d (.mv tk x) l is fr σ K = runS C P rd l is (putA d (tkL tk fr x).1 (tkL tk fr x).2) σ K := (rfl)
theorem e_pick {d c a b l is fr σ K} : opS C P rd d (.pick c a b) l is fr σ K = thn C P rd d l is K (evL (.pick c a b) fr σ) := opS_plain rfl rfl
theorem e_alloc {d hp z l is fr σ K} : opS C P rd d (.alloc hp z) l is fr σ K = thn C P rd d l is K ((newBox hp z σ).map fun r => (.ptr r.1 0, fr, r.2)) := opS_plain rfl rfl
theorem e_box {d tk hp x l is fr σ K} : opS C P rd d (.box tk hp x) l is fr σ K = thn C P rd d l is K (evL (.box tk hp x) fr σ) := opS_plain rfl rfl
theorem e_build {d z ps l is fr σ K} : opS C P rd d (.build z ps) l is fr σ K = thn C P rd d l is K (evL (.build z ps) (settleL fr (ps.map (·.2.2))) σ) := opS_plain rfl rfl
theorem e_bsl {d e n ps l is fr σ K} : opS C P rd d (.bsl e n ps) l is fr σ K = thn C P rd d l is K (evL (.bsl e n ps) (settleL fr (ps.map (·.2))) σ) := opS_plain rfl rfl
theorem e_loadA {d n x l is fr σ K} : opS C P rd d (.loadA n x) l is fr σ K = thn C P rd d l is K ((readA σ (seL fr x) n).map fun v => (v, fr, σ)) := opS_plain rfl rfl
theorem e_load1 {d tk x l is fr σ K} : opS C P rd d (.load1 tk x) l is fr σ K = thn C P rd d l is K ((load1L tk (seL fr x) σ).map fun r => (r.1, fr, r.2)) := opS_plain rfl rfl
theorem e_store {d n p x l is fr σ K} : opS C P rd d (.store n p x) l is fr σ K = thn C P rd d l is K ((storeL n (seL (tkL true fr x).2 p) (tkL true fr x).1.calm σ).map fun σ => (.undef, (tkL true fr x).2, σ)) := opS_plain rfl rfl
theorem e_nilc {d x l is fr σ K} : opS C P rd d (.nilc x) l is fr σ K = thn C P rd d l is K (evL (.nilc x) fr σ) := opS_plain rfl rfl
theorem e_bin {d op k x y l is fr σ K} : opS C P rd d (.bin op k x y) l is fr σ K = mb C P rd d l is K fr σ (thn C P rd d l is K ((binL op k (seL fr x) (seL fr y)).map fun v => (v, fr, σ))) (mayb (.bin op k x y) fr) := by
  cases hm : mayb (.bin op k x y) fr with
  | false => exact opS_plain rfl hm
  | true => unfold opS; rw [hm]; rfl
theorem mb_t {d l is K fr σ q} : mb C P rd d l is K fr σ q true = ∀ b, runS C P rd l is (putA d (.bool b) fr) σ K := (rfl)
theorem mb_f {d l is K fr σ q} : mb C P rd d l is K fr σ q false = q := (rfl)
theorem mayb_sc {op x y fr} : mayb (.bin op .sc x y) fr = false := (rfl)
theorem mayb_bl {op x y fr} : mayb (.bin op .bl x y) fr = false := (rfl)
theorem mayb_leaf {op ls x y fr} : mayb (.bin op (.leaf ls) x y) fr = false := (rfl)
theorem mayb_r0 {op x y fr} : mayb (.bin op (.ref 0) x y) fr = false := (rfl)
theorem mayb_r1 {op x y fr} : mayb (.bin op (.ref 1) x y) fr = (isEq op && maybeNil (seL fr x) (seL fr y)) := (rfl)
theorem mayb_r2 {op x y fr} : mayb (.bin op (.ref 2) x y) fr = false := (rfl)
theorem mayb_r3 {op x y fr} : mayb (.bin op (.ref 3) x y) fr = false := (rfl)
theorem e_un {d op x l is fr σ K} : opS C P rd d (.un op x) l is fr σ K = thn C P rd d l is K ((unL op (seL fr x)).map fun v => (v, fr, σ)) := opS_plain rfl rfl
theorem e_conv {d k x l is fr σ K} : opS C P rd d (.conv k x) l is fr σ K = thn C P rd d l is K ((convL k (seL (settleL fr [x]) x) σ).map fun v => (v, settleL fr [x], σ)) := opS_plain rfl rfl
theorem e_mkfn {d f a b l is fr σ K} : opS C P rd d (.mkfn f a b) l is fr σ K = runS C P rd l is (putA d (.fn (.func f) (a.map (seL fr)) (b.map (seL fr))) fr) σ K := (rfl)
theorem e_mkmap {d r l is fr σ K} : opS C P rd d (.mkmap r) l is fr σ K = thn C P rd d l is K (evL (.mkmap r) fr σ) := opS_plain rfl rfl
theorem e_mksl {d tk hp e a c l is fr σ K} : opS C P rd d (.mksl tk hp e a c) l is fr σ K = thn C P rd d l is K ((mkslL tk hp e (seL fr a) (seL fr c) σ).map fun r => (r.1, fr, r.2)) := opS_plain rfl rfl
theorem e_slc {d k x lo hi mx l is fr σ K} : opS C P rd d (.slc k x lo hi mx) l is fr σ K = thn C P rd d l is K ((sliceL k (seL (settleL fr [x]) x) (lo.map (seL (settleL fr [x]))) (hi.map (seL (settleL fr [x]))) (mx.map (seL (settleL fr [x])))).map fun v => (v, settleL fr [x], σ)) := opS_plain rfl rfl
theorem e_shift {d o x l is fr σ K} : opS C P rd d (.shift o x) l is fr σ K = thn C P rd d l is K ((shift (seL fr x) o).map fun v => (v, fr, σ)) := opS_plain rfl rfl
theorem e_part {d ag o x l is fr σ K} : opS C P rd d (.part ag o x) l is fr σ K = thn C P rd d l is K (evL (.part ag o x) fr σ) := opS_plain rfl rfl
theorem e_ixa {d k x i l is fr σ K} : opS C P rd d (.ixa k x i) l is fr σ K = thn C P rd d l is K ((indexAddrL k (seL (settleL fr [x]) x) (seL (settleL fr [x]) i)).map fun v => (v, settleL fr [x], σ)) := opS_plain rfl rfl
theorem e_ixs {d x i l is fr σ K} : opS C P rd d (.ixs x i) l is fr σ K = thn C P rd d l is K (evL (.ixs x i) fr σ) := opS_plain rfl rfl
theorem e_ixv {d n c ag x i l is fr σ K} : opS C P rd d (.ixv n c ag x i) l is fr σ K = thn C P rd d l is K (evL (.ixv n c ag x i) fr σ) := opS_plain rfl rfl
theorem e_look {d kk z ok m k l is fr σ K} : opS C P rd d (.look kk z ok m k) l is fr σ K = thn C P rd d l is K ((lookupL kk z ok (seL fr m) (seL fr k) σ).map fun v => (v, fr, σ)) := opS_plain rfl rfl
theorem e_upd {d kk m k v l is fr σ K} : opS C P rd d (.upd kk m k v) l is fr σ K = thn C P rd d l is K (evL (.upd kk m k v) (settleL fr [v]) σ) := opS_plain rfl rfl
theorem e_ext {d x i l is fr σ K} : opS C P rd d (.ext x i) l is fr σ K = thn C P rd d l is K (evL (.ext x i) fr σ) := opS_plain rfl rfl
theorem e_len {d k x l is fr σ K} : opS C P rd d (.len k x) l is fr σ K = thn C P rd d l is K ((lenL k (seL (settleL fr [x]) x) σ).map fun (n : Nat) => (AV.i n, settleL fr [x], σ)) := opS_plain rfl rfl
theorem e_cap {d x l is fr σ K} : opS C P rd d (.cap x) l is fr σ K = thn C P rd d l is K ((capL (seL (settleL fr [x]) x)).map fun (n : Nat) => (AV.i n, settleL fr [x], σ)) := opS_plain rfl rfl
theorem e_app {d e b s x l is fr σ K} : opS C P rd d (.app e b s x) l is fr σ K = thn C P rd d l is K (evL (.app e b s x) (settleL fr [x]) σ) := opS_plain rfl rfl
theorem e_cpy {d e b s x l is fr σ K} : opS C P rd d (.cpy e b s x) l is fr σ K = thn C P rd d l is K ((copyL e b (seL fr s) (seL fr x) σ).map fun r => (r.1, fr, r.2)) := opS_plain rfl rfl
theorem e_del {d kk m k l is fr σ K} : opS C P rd d (.del kk m k) l is fr σ K = thn C P rd d l is K ((deleteL kk (seL fr m) (seL fr k) σ).map fun σ => (.tup [], fr, σ)) := opS_plain rfl rfl
theorem e_clr {d e x l is fr σ K} : opS C P rd d (.clr e x) l is fr σ K = thn C P rd d l is K ((clearL e (seL fr x) σ).map fun σ => (.tup [], fr, σ)) := opS_plain rfl rfl
theorem e_mn {d x y l is fr σ K} : opS C P rd d (.mn x y) l is fr σ K = thn C P rd d l is K (evL (.mn x y) fr σ) := opS_plain rfl rfl
theorem e_mx {d x y l is fr σ K} : opS C P rd d (.mx x y) l is fr σ K = thn C P rd d l is K (evL (.mx x y) fr σ) := opS_plain rfl rfl
theorem e_thaw {d t l is fr σ K} : opS C P rd d (.thaw t) l is fr σ K = thn C P rd d l is K (AM.thaw fr (.tmp t) σ) := opS_plain rfl rfl
theorem e_frz {d e x l is fr σ K} : opS C P rd d (.frz e x) l is fr σ K = thn C P rd d l is K ((freezeL e (seL fr x) σ).map fun r => (r.1, fr, r.2)) := opS_plain rfl rfl

/-! Regions of a drawn order -/
def rdV (C : CallW) (P : Program) (rd : Bool) (s : LStep) (i : Nat) (ck : Bool) (rest : LT) (chk : List LChk) (is : List Item) (fr : Fr) (σ : St) (K : KC) : Option AV → Prop
  | some v => runT C P rd rest (if (ck && depL fr s.op) = true then ⟨i, s, fr, v⟩ :: chk else chk) is (putA s.dst v fr) σ K
  | none => False
def rdG (C : CallW) (P : Program) (rd : Bool) (s : LStep) (i : Nat) (ck : Bool) (rest : LT) (chk : List LChk) (is : List Item) (fr : Fr) (σ : St) (K : KC) : Option Bool → Prop
  | some g => (g = true → rdV C P rd s i ck rest chk is fr σ K (readL s fr σ)) ∧ (g = false → runT C P rd rest chk is (putA s.dst (.tup []) fr) σ K)
  | none => False
def mvK (C : CallW) (P : Program) (rd : Bool) (drop : List Nat) (chk : List LChk) (rest : LT) (is : List Item) (K : KC) (fr : Fr) (σ : St) : Prop :=
  (chk.filter fun c => !drop.contains c.i).all (fun c => c.ok σ) = true ∧ runT C P rd rest (chk.filter fun c => !drop.contains c.i) is fr σ K
def opT (C : CallW) (P : Program) (rd : Bool) (d : Option Nat) (op : LOp) (drop : List Nat) (chk : List LChk) (rest : LT) (is : List Item) (K : KC) (fr : Fr) (σ : St) : Prop :=
  doL C op (settleL fr (settledL op)) σ fun v fr' σ' => mvK C P rd drop chk rest is K (putA d v fr') σ'
def mvG (C : CallW) (P : Program) (rd : Bool) (d : Option Nat) (op : LOp) (drop : List Nat) (chk : List LChk) (rest : LT) (is : List Item) (K : KC) (fr : Fr) (σ : St) : Option Bool → Prop
  | some g => (g = true → opT C P rd d op drop chk rest is K fr σ) ∧ (g = false → mvK C P rd drop chk rest is K (putA d (.tup []) fr) σ)
  | none => False
def thnT (C : CallW) (P : Program) (rd : Bool) (d : Option Nat) (drop : List Nat) (chk : List LChk) (rest : LT) (is : List Item) (K : KC) : Option (AV × Fr × St) → Prop
  | some (v, fr, σ) => mvK C P rd drop chk rest is K (putA d v fr) σ
  | none => False
def bakT (C : CallW) (P : Program) (rd : Bool) (d : Option Nat) (drop : List Nat) (chk : List LChk) (rest : LT) (is : List Item) (K : KC) (fr : Fr) (v : AV) (σ : St) : Prop := mvK C P rd drop chk rest is K (putA d v fr) σ
def callT (C : CallW) (P : Program) (rd : Bool) (d : Option Nat) (drop : List Nat) (chk : List LChk) (rest : LT) (is : List Item) (K : KC) (σ : St) (g : AV) (r : List AV × Fr) : Prop :=
  match g with
  | .fn (.func h) first captured => C (.fn h) (first ++ r.1 ++ captured) σ (bakT C P rd d drop chk rest is K r.2)
  | .yield h => C (.yield h) r.1 σ (bakT C P rd d drop chk rest is K r.2)
  | _ => False

theorem runT_done {chk is fr σ K} : runT C P rd .done chk is fr σ K = nxt C P rd is fr σ K := (rfl)
theorem runT_stop {chk is fr σ K} : runT C P rd .stop chk is fr σ K = True := (rfl)
theorem runT_rd {s i ck rest chk is fr σ K} : runT C P rd (.rd s i ck rest) chk is fr σ K = rdG C P rd s i ck rest chk is fr σ K (guardL fr s.guard) := by
  show (match guardL fr s.guard with | some g => _ | none => False) = _
  cases guardL fr s.guard with
  | none => rfl
  | some g =>
    show (_ ∧ _) = (_ ∧ _)
    refine congr (congrArg And ?_) rfl
    cases readL s fr σ <;> rfl
theorem rdG_true {s i ck rest chk is fr σ K} : rdG C P rd s i ck rest chk is fr σ K (some true) = rdV C P rd s i ck rest chk is fr σ K (readL s fr σ) := by simp [rdG]
theorem rdG_false {s i ck rest chk is fr σ K} : rdG C P rd s i ck rest chk is fr σ K (some false) = runT C P rd rest chk is (putA s.dst (.tup []) fr) σ K := by simp [rdG]
theorem rdV_some {s i ck rest chk is fr σ K v} : rdV C P rd s i ck rest chk is fr σ K (some v) = runT C P rd rest (if (ck && depL fr s.op) = true then ⟨i, s, fr, v⟩ :: chk else chk) is (putA s.dst v fr) σ K := (rfl)
theorem runT_mv {d g op drop rest alt chk is fr σ K} : runT C P rd (.mv ⟨d, g, op⟩ drop rest alt) chk is fr σ K = (mvG C P rd d op drop chk rest is K fr σ (guardL fr g) ∧ runT C P rd alt chk is fr σ K) := by
  show (stepL C ⟨d, g, op⟩ fr σ _ ∧ _) = _
  refine congr (congrArg And ?_) rfl
  unfold stepL
  cases guardL fr g <;> rfl
theorem mvG_true {d op drop rest chk is fr σ K} : mvG C P rd d op drop chk rest is K fr σ (some true) = opT C P rd d op drop chk rest is K fr σ := by simp [mvG]
theorem mvG_false {d op drop rest chk is fr σ K} : mvG C P rd d op drop chk rest is K fr σ (some false) = mvK C P rd drop chk rest is K (putA d (.tup []) fr) σ := by simp [mvG]
theorem opT_plain {d op drop rest chk is fr σ K} (hp : op.plain = true) : opT C P rd d op drop chk rest is K fr σ = thnT C P rd d drop chk rest is K (evL op (settleL fr (settledL op)) σ) := by
  unfold opT
  rw [doL_plain hp]
  cases evL op (settleL fr (settledL op)) σ <;> rfl
theorem t_mv {d tk x drop rest chk is fr σ K} : opT C P rd d (.mv tk x) drop chk rest is K fr σ = thnT C P rd d drop chk rest is K (evL (.mv tk x) (settleL fr (settledL (.mv tk x))) σ) := opT_plain rfl
theorem t_pick {d c a b drop rest chk is fr σ K} : opT C P rd d (.pick c a b) drop chk rest is K fr σ = thnT C P rd d drop chk rest is K (evL (.pick c a b) (settleL fr (settledL (.pick c a b))) σ) := opT_plain rfl
theorem t_alloc {d hp z drop rest chk is fr σ K} : opT C P rd d (.alloc hp z) drop chk rest is K fr σ = thnT C P rd d drop chk rest is K (evL (.alloc hp z) (settleL fr (settledL (.alloc hp z))) σ) := opT_plain rfl
theorem t_box {d tk hp x drop rest chk is fr σ K} : opT C P rd d (.box tk hp x) drop chk rest is K fr σ = thnT C P rd d drop chk rest is K (evL (.box tk hp x) (settleL fr (settledL (.box tk hp x))) σ) := opT_plain rfl
theorem t_build {d z ps drop rest chk is fr σ K} : opT C P rd d (.build z ps) drop chk rest is K fr σ = thnT C P rd d drop chk rest is K (evL (.build z ps) (settleL fr (settledL (.build z ps))) σ) := opT_plain rfl
theorem t_bsl {d e n ps drop rest chk is fr σ K} : opT C P rd d (.bsl e n ps) drop chk rest is K fr σ = thnT C P rd d drop chk rest is K (evL (.bsl e n ps) (settleL fr (settledL (.bsl e n ps))) σ) := opT_plain rfl
theorem t_loadA {d n x drop rest chk is fr σ K} : opT C P rd d (.loadA n x) drop chk rest is K fr σ = thnT C P rd d drop chk rest is K (evL (.loadA n x) (settleL fr (settledL (.loadA n x))) σ) := opT_plain rfl
theorem t_load1 {d tk x drop rest chk is fr σ K} : opT C P rd d (.load1 tk x) drop chk rest is K fr σ = thnT C P rd d drop chk rest is K (evL (.load1 tk x) (settleL fr (settledL (.load1 tk x))) σ) := opT_plain rfl
theorem t_store {d n p x drop rest chk is fr σ K} : opT C P rd d (.store n p x) drop chk rest is K fr σ = thnT C P rd d drop chk rest is K (evL (.store n p x) (settleL fr (settledL (.store n p x))) σ) := opT_plain rfl
theorem t_nilc {d x drop rest chk is fr σ K} : opT C P rd d (.nilc x) drop chk rest is K fr σ = thnT C P rd d drop chk rest is K (evL (.nilc x) (settleL fr (settledL (.nilc x))) σ) := opT_plain rfl
theorem t_bin {d op k x y drop rest chk is fr σ K} : opT C P rd d (.bin op k x y) drop chk rest is K fr σ = thnT C P rd d drop chk rest is K (evL (.bin op k x y) (settleL fr (settledL (.bin op k x y))) σ) := opT_plain rfl
theorem t_un {d op x drop rest chk is fr σ K} : opT C P rd d (.un op x) drop chk rest is K fr σ = thnT C P rd d drop chk rest is K (evL (.un op x) (settleL fr (settledL (.un op x))) σ) := opT_plain rfl
theorem t_conv {d k x drop rest chk is fr σ K} : opT C P rd d (.conv k x) drop chk rest is K fr σ = thnT C P rd d drop chk rest is K (evL (.conv k x) (settleL fr (settledL (.conv k x))) σ) := opT_plain rfl
theorem t_mkfn {d f a b drop rest chk is fr σ K} : opT C P rd d (.mkfn f a b) drop chk rest is K fr σ = thnT C P rd d drop chk rest is K (evL (.mkfn f a b) (settleL fr (settledL (.mkfn f a b))) σ) := opT_plain rfl
theorem t_mkmap {d r drop rest chk is fr σ K} : opT C P rd d (.mkmap r) drop chk rest is K fr σ = thnT C P rd d drop chk rest is K (evL (.mkmap r) (settleL fr (settledL (.mkmap r))) σ) := opT_plain rfl
theorem t_mksl {d tk hp e a c drop rest chk is fr σ K} : opT C P rd d (.mksl tk hp e a c) drop chk rest is K fr σ = thnT C P rd d drop chk rest is K (evL (.mksl tk hp e a c) (settleL fr (settledL (.mksl tk hp e a c))) σ) := opT_plain rfl
theorem t_slc {d k x lo hi mx drop rest chk is fr σ K} : opT C P rd d (.slc k x lo hi mx) drop chk rest is K fr σ = thnT C P rd d drop chk rest is K (evL (.slc k x lo hi mx) (settleL fr (settledL (.slc k x lo hi mx))) σ) := opT_plain rfl
theorem t_shift {d o x drop rest chk is fr σ K} : opT C P rd d (.shift o x) drop chk rest is K fr σ = thnT C P rd d drop chk rest is K (evL (.shift o x) (settleL fr (settledL (.shift o x))) σ) := opT_plain rfl
theorem t_part {d ag o x drop rest chk is fr σ K} : opT C P rd d (.part ag o x) drop chk rest is K fr σ = thnT C P rd d drop chk rest is K (evL (.part ag o x) (settleL fr (settledL (.part ag o x))) σ) := opT_plain rfl
theorem t_ixa {d k x i drop rest chk is fr σ K} : opT C P rd d (.ixa k x i) drop chk rest is K fr σ = thnT C P rd d drop chk rest is K (evL (.ixa k x i) (settleL fr (settledL (.ixa k x i))) σ) := opT_plain rfl
theorem t_ixs {d x i drop rest chk is fr σ K} : opT C P rd d (.ixs x i) drop chk rest is K fr σ = thnT C P rd d drop chk rest is K (evL (.ixs x i) (settleL fr (settledL (.ixs x i))) σ) := opT_plain rfl
theorem t_ixv {d n c ag x i drop rest chk is fr σ K} : opT C P rd d (.ixv n c ag x i) drop chk rest is K fr σ = thnT C P rd d drop chk rest is K (evL (.ixv n c ag x i) (settleL fr (settledL (.ixv n c ag x i))) σ) := opT_plain rfl
theorem t_look {d kk z ok m k drop rest chk is fr σ K} : opT C P rd d (.look kk z ok m k) drop chk rest is K fr σ = thnT C P rd d drop chk rest is K (evL (.look kk z ok m k) (settleL fr (settledL (.look kk z ok m k))) σ) := opT_plain rfl
theorem t_upd {d kk m k v drop rest chk is fr σ K} : opT C P rd d (.upd kk m k v) drop chk rest is K fr σ = thnT C P rd d drop chk rest is K (evL (.upd kk m k v) (settleL fr (settledL (.upd kk m k v))) σ) := opT_plain rfl
theorem t_ext {d x i drop rest chk is fr σ K} : opT C P rd d (.ext x i) drop chk rest is K fr σ = thnT C P rd d drop chk rest is K (evL (.ext x i) (settleL fr (settledL (.ext x i))) σ) := opT_plain rfl
theorem t_len {d k x drop rest chk is fr σ K} : opT C P rd d (.len k x) drop chk rest is K fr σ = thnT C P rd d drop chk rest is K (evL (.len k x) (settleL fr (settledL (.len k x))) σ) := opT_plain rfl
theorem t_cap {d x drop rest chk is fr σ K} : opT C P rd d (.cap x) drop chk rest is K fr σ = thnT C P rd d drop chk rest is K (evL (.cap x) (settleL fr (settledL (.cap x))) σ) := opT_plain rfl
theorem t_app {d e b s x drop rest chk is fr σ K} : opT C P rd d (.app e b s x) drop chk rest is K fr σ = thnT C P rd d drop chk rest is K (evL (.app e b s x) (settleL fr (settledL (.app e b s x))) σ) := opT_plain rfl
theorem t_cpy {d e b s x drop rest chk is fr σ K} : opT C P rd d (.cpy e b s x) drop chk rest is K fr σ = thnT C P rd d drop chk rest is K (evL (.cpy e b s x) (settleL fr (settledL (.cpy e b s x))) σ) := opT_plain rfl
theorem t_del {d kk m k drop rest chk is fr σ K} : opT C P rd d (.del kk m k) drop chk rest is K fr σ = thnT C P rd d drop chk rest is K (evL (.del kk m k) (settleL fr (settledL (.del kk m k))) σ) := opT_plain rfl
theorem t_clr {d e x drop rest chk is fr σ K} : opT C P rd d (.clr e x) drop chk rest is K fr σ = thnT C P rd d drop chk rest is K (evL (.clr e x) (settleL fr (settledL (.clr e x))) σ) := opT_plain rfl
theorem t_mn {d x y drop rest chk is fr σ K} : opT C P rd d (.mn x y) drop chk rest is K fr σ = thnT C P rd d drop chk rest is K (evL (.mn x y) (settleL fr (settledL (.mn x y))) σ) := opT_plain rfl
theorem t_mx {d x y drop rest chk is fr σ K} : opT C P rd d (.mx x y) drop chk rest is K fr σ = thnT C P rd d drop chk rest is K (evL (.mx x y) (settleL fr (settledL (.mx x y))) σ) := opT_plain rfl
theorem t_thaw {d t drop rest chk is fr σ K} : opT C P rd d (.thaw t) drop chk rest is K fr σ = thnT C P rd d drop chk rest is K (evL (.thaw t) (settleL fr (settledL (.thaw t))) σ) := opT_plain rfl
theorem t_frz {d e x drop rest chk is fr σ K} : opT C P rd d (.frz e x) drop chk rest is K fr σ = thnT C P rd d drop chk rest is K (evL (.frz e x) (settleL fr (settledL (.frz e x))) σ) := opT_plain rfl
theorem thnT_some {d drop rest chk is K v fr σ} : thnT C P rd d drop chk rest is K (some (v, fr, σ)) = mvK C P rd drop chk rest is K (putA d v fr) σ := (rfl)
theorem opT_call {d g args drop rest chk is fr σ K} : opT C P rd d (.call g args) drop chk rest is K fr σ = callT C P rd d drop chk rest is K σ (seL fr g) (tkAllL fr args) := by
  unfold opT callT doL
  simp only [settledL, settleL]
  cases seL fr g with
  | fn fn a c => cases fn <;> rfl
  | _ => rfl
theorem callT_fn {d drop rest chk is K σ h a c vs fr} : callT C P rd d drop chk rest is K σ (.fn (.func h) a c) (vs, fr) = C (.fn h) (a ++ vs ++ c) σ (bakT C P rd d drop chk rest is K fr) := (rfl)
theorem callT_yield {d drop rest chk is K σ h vs fr} : callT C P rd d drop chk rest is K σ (.yield h) (vs, fr) = C (.yield h) vs σ (bakT C P rd d drop chk rest is K fr) := (rfl)
theorem bakT_eq {d drop rest chk is K fr v σ} : bakT C P rd d drop chk rest is K fr v σ = mvK C P rd drop chk rest is K (putA d v fr) σ := (rfl)
theorem mvK_nil {drop rest is K fr σ} : mvK C P rd drop [] rest is K fr σ = runT C P rd rest [] is fr σ K := by simp [mvK]
theorem unfC {x y : LCode} (h : x = y) : ∀ {C : CallW} {P : Program} {rd : Bool} {is : List Item} {fr : Fr} {σ : St} {K : KC}, runC C P rd x is fr σ K = runC C P rd y is fr σ K := by subst h; intros; rfl
def cs (l : List FuncId) (n : Nat) : FuncId := l.getD n 0

/-! A function -/
def fin (base : Nat) (rs : List LR) (K : AV → St → Prop) : KC := finL base rs K

theorem run_fn {F : LFn} {args : List AV} {S H} {K : AV → St → Prop} : runL C P F args ⟨S, H⟩ K = runC C P false F.code [] (args ++ List.replicate (F.ntmps - args.length) .undef) ⟨S, H⟩ (fin S.length F.res K) := (rfl)

def end1 (base : Nat) (K : AV → St → Prop) (σ : St) : Option (List AV) → Prop
  | some [v] => v.under base = true ∧ K v { σ with stk := σ.stk.take base }
  | some vs => underL base vs = true ∧ K (.tup (vs.map AV.look)) { σ with stk := σ.stk.take base }
  | none => False

theorem fin_ret {base rs K fr σ} : fin base rs K .ret fr σ = end1 base K σ (ressL fr σ rs) := (rfl)
theorem fin_normal {base rs K fr σ} : fin base rs K .normal fr σ = end1 base K σ (ressL fr σ rs) := (rfl)
theorem end1_nil {base K S H} : end1 base K ⟨S, H⟩ (some []) = K (.tup []) ⟨S.take base, H⟩ := by simp [end1, AV.under.go]
theorem end1_one {base K S H v} : end1 base K ⟨S, H⟩ (some [v]) = (v.under base = true ∧ K v ⟨S.take base, H⟩) := (rfl)
theorem end1_two {base K S H v u} : end1 base K ⟨S, H⟩ (some [v, u]) = (underL base [v, u] = true ∧ K (.tup [v.look, u.look]) ⟨S.take base, H⟩) := (rfl)
theorem end1_three {base K S H v u t} : end1 base K ⟨S, H⟩ (some [v, u, t]) = (underL base [v, u, t] = true ∧ K (.tup [v.look, u.look, t.look]) ⟨S.take base, H⟩) := (rfl)
theorem end1_four {base K S H v u t s} : end1 base K ⟨S, H⟩ (some [v, u, t, s]) = (underL base [v, u, t, s] = true ∧ K (.tup [v.look, u.look, t.look, s.look]) ⟨S.take base, H⟩) := (rfl)

def cns (v : AV) : Option (List AV) → Option (List AV)
  | some vs => some (v :: vs)
  | none => none
theorem ress_nil {fr σ} : ressL fr σ [] = some [] := (rfl)
theorem ress_t {fr σ n rs} : ressL fr σ (.t n :: rs) = cns (fr.getD n .undef) (ressL fr σ rs) := by
  simp only [ressL, resL]
  cases ressL fr σ rs <;> rfl
theorem cns_some {v vs} : cns v (some vs) = some (v :: vs) := (rfl)
def cns2 (v : Option AV) (r : Option (List AV)) : Option (List AV) := match v with
  | some v => cns v r
  | none => none
theorem ress_many {fr σ a n rs} : ressL fr σ (.many a n :: rs) = cns2 (readA σ (fr.getD a .undef) n) (ressL fr σ rs) := by
  simp only [ressL, resL, cns2]
  cases readA σ (fr.getD a .undef) n <;> cases ressL fr σ rs <;> rfl
theorem ress_one {fr σ a rs} : ressL fr σ (.one a :: rs) = cns2 ((load1L false (fr.getD a .undef) σ).map (·.1)) (ressL fr σ rs) := by
  simp only [ressL, resL, cns2]
  cases (load1L false (fr.getD a .undef) σ).map (·.1) <;> cases ressL fr σ rs <;> rfl
theorem cns2_some {v r} : cns2 (some v) r = cns v r := (rfl)

/-! Loops -/
theorem doL_mono (hC : LeC C C) {op : LOp} {fr σ} {K K' : AV → Fr → St → Prop} (hK : ∀ v fr σ, K v fr σ → K' v fr σ) : doL C op fr σ K → doL C op fr σ K' := by
  unfold doL
  split
  · split
    · split
      · exact fun h1 => hK _ _ _ h1
      · exact id
    · exact fun h1 => hK _ _ _ h1
    · exact id
  · split
    · split
      · exact fun h1 => hK _ _ _ h1
      · split
        · exact fun h1 => ⟨h1.1, fun k => hK _ _ _ (h1.2.1 k), fun e he hs => hK _ _ _ (h1.2.2 e he hs)⟩
        · exact id
    · exact id
  · split
    · split
      · split
        · refine fun h1 => ⟨h1.1, ?_⟩
          have h2 := h1.2
          split at h2
          · exact hK _ _ _ h2
          · exact h2
        · exact id
      · exact id
    · exact id
  · split
    · exact fun h1 => hC _ _ _ _ _ (fun v s k => hK _ _ _ k) h1
    · exact fun h1 => hC _ _ _ _ _ (fun v s k => hK _ _ _ k) h1
    · exact id
  · split
    · exact fun h1 => hK _ _ _ h1
    · exact id

theorem stepL_mono (hC : LeC C C) {s : LStep} {fr σ} {K K' : Fr → St → Prop} (hK : ∀ fr σ, K fr σ → K' fr σ) (h : stepL C s fr σ K) : stepL C s fr σ K' := by
  unfold stepL at h ⊢
  split at h
  · exact ⟨fun hg => doL_mono hC (fun _ _ _ k => hK _ _ k) (h.1 hg), fun hg => hK _ _ (h.2 hg)⟩
  · exact h

theorem seqL_mono {hC : LeC C C} : ∀ (l : List LStep) {fr σ} {K K' : Fr → St → Prop}, (∀ fr σ, K fr σ → K' fr σ) → seqL C l fr σ K → seqL C l fr σ K' := by
  intro l
  induction l with
  | nil => intro fr σ K K' hK h; exact hK _ _ h
  | cons s l ih =>
    intro fr σ K K' hK h
    simp only [seqL] at h ⊢
    split at h
    · exact fun b => ih hK (h b)
    · exact stepL_mono hC (fun _ _ k => ih hK k) h

theorem planL_mono (hC : LeC C C) : ∀ (t : LT) {fr σ chk} {K K' : Fr → St → Prop}, (∀ fr σ, K fr σ → K' fr σ) → planL C t fr σ chk K → planL C t fr σ chk K'
  | .done, fr, σ, chk, K, K', hK, h => hK _ _ h
  | .stop, fr, σ, chk, K, K', hK, h => trivial
  | .rd s i ck rest, fr, σ, chk, K, K', hK, h => by
    simp only [planL] at h ⊢
    split at h
    · refine ⟨fun hg => ?_, fun hg => planL_mono hC rest hK (h.2 hg)⟩
      have h1 := h.1 hg
      split at h1
      · exact planL_mono hC rest hK h1
      · exact h1
    · exact h
  | .mv s drop rest alt, fr, σ, chk, K, K', hK, h => by
    simp only [planL] at h ⊢
    exact ⟨stepL_mono hC (fun fr σ k => ⟨k.1, planL_mono hC rest hK k.2⟩) h.1, planL_mono hC alt hK h.2⟩

theorem execL_mono (hC : LeC C C) : ∀ (c : LCode) {fr σ} {K K' : KC}, (∀ e fr σ, K e fr σ → K' e fr σ) → execL C P rd c fr σ K → execL C P rd c fr σ K'
  | .skip, fr, σ, K, K', hK, h => hK _ _ _ h
  | .sq l, fr, σ, K, K', hK, h => seqL_mono (hC := hC) l (fun _ _ k => hK _ _ _ k) h
  | .tree t, fr, σ, K, K', hK, h => planL_mono hC t (fun _ _ k => hK _ _ _ k) h
  | .seq a b, fr, σ, K, K', hK, h => by
    simp only [execL] at h ⊢
    exact execL_mono hC a (roundK_mono (fun fr s h => execL_mono hC b hK h) hK) h
  | .cond c a b, fr, σ, K, K', hK, h => by
    simp only [execL] at h ⊢
    split at h
    · exact ⟨fun hx => execL_mono hC a hK (h.1 hx), fun hx => execL_mono hC b hK (h.2 hx)⟩
    · exact h
  | .block id b, fr, σ, K, K', hK, h => by
    simp only [execL] at h ⊢
    exact execL_mono hC b (blockK_mono hK) h
  | .loop m b, fr, σ, K, K', hK, h => by
    simp only [execL] at h ⊢
    intro I hI
    exact h I fun fr s hu hb => hI fr s hu (execL_mono hC b (roundK_mono (fun _ _ h => h) hK) hb)
  | .exit id, fr, σ, K, K', hK, h => hK _ _ _ h
  | .ret, fr, σ, K, K', hK, h => hK _ _ _ h
  | .rfun g f ps a b, fr, σ, K, K', hK, h => by
    simp only [execL] at h ⊢
    refine ⟨h.1, ?_⟩
    have h2 := h.2
    split at h2
    · refine ⟨h2.1, hC _ _ _ _ _ (fun v s hk => ?_) h2.2⟩
      split at hk
      · exact ⟨hk.1, hK _ _ _ hk.2⟩
      · exact hk
    · exact h2
  | .bad, fr, σ, K, K', hK, h => h

/-- One round of a loop. -/
theorem loop_step (hC : LeC C C) {m : List Bool} {b : LCode} {n0 : Nat} {is : List Item} {fr fr0 : Fr} {S : List (List AV)} {H : List HObj} {K : KC} (hk : keep m fr = fr0) (hu : underL n0 fr0 = true)
    (h : runC C P rd b (.lp m b n0 :: is) fr0 ⟨S.take n0, H⟩ K) : runLp C P rd m b n0 is fr ⟨S, H⟩ K := by
  subst hk
  exact loopW_fold (fun fr σ K K' hK h => execL_mono hC b hK h) hu h
end
end Go.AM
/-! Words for lowered code at symbolic values. -/
namespace Go.AM
open Go
set_option linter.unusedVariables false
set_option linter.unusedSimpArgs false

/-- A key's sixteen bytes. -/
structure Key where
  b : List UInt8
  h : b.length = 16

theorem Key.ext' {x y : Key} (h : x.b = y.b) : x = y := by cases x; cases y; cases h; rfl

instance : DecidableEq Key := fun x y => if h : x.b = y.b then isTrue (Key.ext' h) else isFalse fun e => h (by rw [e])

def u8 (b : UInt8) : AV := .s (.int .u8 b.toNat)
def bs (l : List UInt8) : List AV := l.map u8
abbrev Key.c (k : Key) : List AV := bs k.b

theorem bs_length (l : List UInt8) : (bs l).length = l.length := by simp [bs]
theorem kc_length (k : Key) : (bs k.b).length = 16 := by simp [bs, k.h]

theorem under_u8 (n : Nat) (b : UInt8) : AV.under n (u8 b) = true := rfl
theorem under_bs (n : Nat) : ∀ (l : List UInt8), AV.under.go n (bs l) = true
  | [] => rfl
  | b :: l => by simp only [bs, List.map_cons, AV.under.go, under_u8, Bool.true_and]; exact under_bs n l

theorem newBox_stk {cs : List AV} {S : List (List AV)} {H : List HObj} (h : underL S.length cs = true) : newBox false cs ⟨S, H⟩ = some (.stk S.length, ⟨S ++ [cs], H⟩) := by
  unfold newBox; simp [h]
theorem newBox_heap {cs : List AV} {S : List (List AV)} {H : List HObj} (h : underL 0 cs = true) : newBox true cs ⟨S, H⟩ = some (.heap H.length, ⟨S, H ++ [.cells cs]⟩) := by
  unfold newBox; simp [h]

/-! Boxes of the call's own -/
theorem app_get0 {α : Type} (S l : List α) : (S ++ l)[S.length]? = l[0]? := by rw [List.getElem?_append_right (Nat.le_refl _), Nat.sub_self]
theorem app_get {α : Type} (S l : List α) (k : Nat) : (S ++ l)[S.length + k]? = l[k]? := by rw [List.getElem?_append_right (Nat.le_add_right _ _), Nat.add_sub_cancel_left]
theorem app_set0 {α : Type} (S l : List α) (x : α) : (S ++ l).set S.length x = S ++ l.set 0 x := by rw [List.set_append_right _ _ (Nat.le_refl _), Nat.sub_self]
theorem app_set {α : Type} (S l : List α) (k : Nat) (x : α) : (S ++ l).set (S.length + k) x = S ++ l.set k x := by rw [List.set_append_right _ _ (Nat.le_add_right _ _), Nat.add_sub_cancel_left]
theorem app_take {α : Type} (S l : List α) : (S ++ l).take S.length = S := by simp
theorem app_take_add {α : Type} (S l : List α) (k : Nat) : (S ++ l).take (S.length + k) = S ++ l.take k := by
  induction S with
  | nil => simp
  | cons x S ih => rw [List.length_cons, Nat.add_right_comm, List.cons_append, List.take_succ_cons, ih]; rfl
theorem app_one {α : Type} (S : List α) (a b : List α) : S ++ a ++ b = S ++ (a ++ b) := List.append_assoc _ _ _

theorem setBox_stk (S : List (List AV)) (H : List HObj) (n : Nat) (cs : List AV) : setBox ⟨S, H⟩ (.stk n) cs = ⟨S.set n cs, H⟩ := rfl
theorem setBox_heap (S : List (List AV)) (H : List HObj) (n : Nat) (cs : List AV) : setBox ⟨S, H⟩ (.heap n) cs = ⟨S, H.set n (.cells cs)⟩ := rfl
def cellsOf? : Option HObj → Option (List AV)
  | some (.cells cs) => some cs
  | _ => none
theorem boxOf_heap (S : List (List AV)) (H : List HObj) (n : Nat) : boxOf ⟨S, H⟩ (.heap n) = cellsOf? H[n]? := by
  show (match H[n]? with | some (.cells cs) => some cs | _ => none) = cellsOf? H[n]?
  cases H[n]? with
  | none => rfl
  | some o => cases o <;> rfl
theorem boxOf_stk (S : List (List AV)) (H : List HObj) (n : Nat) : boxOf ⟨S, H⟩ (.stk n) = S[n]? := rfl

theorem wrap_i64 {x : Int} (h1 : -9223372036854775808 ≤ x) (h2 : x ≤ 9223372036854775807) : IntKind.i64.wrap x = x := by
  unfold IntKind.wrap
  simp [IntKind.signed, IntKind.bits]
  omega

theorem bs_get {l : List UInt8} {i : Nat} (h : i < l.length) : (bs l)[i]? = some (u8 l[i]) := by
  simp [bs, h]

theorem bs_take (l : List UInt8) (n : Nat) : (bs l).take n = bs (l.take n) := by simp [bs]
theorem bs_drop (l : List UInt8) (n : Nat) : (bs l).drop n = bs (l.drop n) := by simp [bs]
theorem look_u8 (b : UInt8) : (u8 b).look = u8 b := rfl
theorem map_look_bs (l : List UInt8) : (bs l).map AV.look = bs l := by simp [bs, look_u8]
theorem bytesIn_bs : ∀ (l : List UInt8), bytesIn (bs l) = some l
  | [] => rfl
  | b :: l => by
    show (bytesIn (bs l)).map _ = _
    rw [bytesIn_bs l]; simp

theorem gd_t (b : Bool) : (b == true) = b := by cases b <;> rfl
theorem gd_f (b : Bool) : (b == false) = !b := by cases b <;> rfl
theorem cast_lit {n : Nat} : ((no_index (OfNat.ofNat n) : Nat) : Int) = OfNat.ofNat n := rfl

theorem group_one : ∀ (n : Nat) (cs : List AV), cs.length = n → groupL ⟨1, false, 1, .undef⟩ n cs = cs
  | 0, cs, h => by cases cs <;> simp_all [groupL]
  | n + 1, [], h => by simp at h
  | n + 1, c :: cs, h => by
    simp only [groupL, packL, List.take_succ_cons, List.take_zero, List.drop_succ_cons, List.drop_zero, List.getD_cons_zero]
    rw [group_one n cs (by simpa using h)]

theorem elems_row {σ : St} {r : Ref} {off len cap : Nat} {cs : List AV} (h : boxOf σ r = some cs) (hl : off + len ≤ cs.length) (hlook : cs.map AV.look = cs) : elemsL ⟨1, false, 1, .undef⟩ (.row r off len cap) σ = some ((cs.drop off).take len) := by
  unfold elemsL
  have hm : ((cs.drop off).take len).map AV.look = (cs.drop off).take len := by
    rw [List.map_take, List.map_drop, hlook]
  simp only [Bool.false_or, beq_self_eq_true, if_true, Nat.mul_one, readCells, h, Option.bind_some]
  rw [if_pos hl, Option.map_some, hm, group_one _ _ (by simp; omega)]

theorem conv_row {σ : St} {r : Ref} {off len cap : Nat} {l : List UInt8} (h : boxOf σ r = some (bs l)) (hl : off + len ≤ l.length) : convL .ofBytes (.row r off len cap) σ = some (.s (.str ((l.drop off).take len))) := by
  unfold convL
  simp only [AV.isSlice, if_true]
  rw [elems_row h (by rw [bs_length]; exact hl) (map_look_bs l), bs_drop, bs_take]
  simp only [Option.bind_some, bytesIn_bs, Option.map_some]

/-- The rule for loops: what is so at each round's head is told of a datum. -/
theorem loop_rule {C : CallW} {P : Program} {rd : Bool} (hC : LeC C C) {m : List Bool} {b : LCode} {n0 : Nat} {is : List Item} {fr : Fr} {S : List (List AV)} {H : List HObj} {K : KC} {α : Type} (μ : α → Nat) (F : α → Fr) (S0 : α → List (List AV)) (H0 : α → List HObj) (I : α → Prop) (a0 : α)
    (h0 : I a0) (hk : keep m fr = F a0) (hS : S.take n0 = S0 a0) (hH : H = H0 a0) (hu : ∀ a, I a → underL n0 (F a) = true)
    (step : ∀ a, I a → (∀ a' fr' S' H', μ a' < μ a → I a' → keep m fr' = F a' → S'.take n0 = S0 a' → H' = H0 a' → runLp C P rd m b n0 is fr' ⟨S', H'⟩ K) → runC C P rd b (.lp m b n0 :: is) (F a) ⟨S0 a, H0 a⟩ K) :
    runLp C P rd m b n0 is fr ⟨S, H⟩ K := by
  have main : ∀ (n : Nat) (a : α) (fr : Fr) (S : List (List AV)) (H : List HObj), μ a < n → I a → keep m fr = F a → S.take n0 = S0 a → H = H0 a → runLp C P rd m b n0 is fr ⟨S, H⟩ K := by
    intro n
    induction n with
    | zero => intro a fr S H h; omega
    | succ n ih =>
      intro a fr S H h hI hk hS hH
      subst hH
      refine loop_step hC hk (hu a hI) ?_
      rw [hS]
      exact step a hI fun a' fr' S' H' hlt hI' => ih a' fr' S' H' (by omega) hI'
  exact main (μ a0 + 1) a0 fr S H (Nat.lt_succ_self _) h0 hk hS hH
end Go.AM
/-! What operations yield at keys, writes, lists of such. -/
namespace Go.AM
open Go
set_option linter.unusedVariables false
set_option linter.unusedSimpArgs false

def key0 : Key := ⟨List.replicate 16 0, rfl⟩
def zk : List AV := [.s (.int .u8 0), .s (.int .u8 0), .s (.int .u8 0), .s (.int .u8 0), .s (.int .u8 0), .s (.int .u8 0), .s (.int .u8 0), .s (.int .u8 0), .s (.int .u8 0), .s (.int .u8 0), .s (.int .u8 0), .s (.int .u8 0), .s (.int .u8 0), .s (.int .u8 0), .s (.int .u8 0), .s (.int .u8 0)]
def lk : List LK := [.int .u8, .int .u8, .int .u8, .int .u8, .int .u8, .int .u8, .int .u8, .int .u8, .int .u8, .int .u8, .int .u8, .int .u8, .int .u8, .int .u8, .int .u8, .int .u8]
theorem zk_eq : zk = bs key0.b := rfl

/-! lists of cells -/
theorem take_kc (k : Key) (r : List AV) : (bs k.b ++ r).take 16 = bs k.b := List.take_left' (kc_length k)
theorem drop_kc (k : Key) (r : List AV) : (bs k.b ++ r).drop 16 = r := List.drop_left' (kc_length k)
theorem take_kc0 (k : Key) : (bs k.b).take 16 = bs k.b := List.take_of_length_le (Nat.le_of_eq (kc_length k))
theorem drop_zero' {α : Type} (l : List α) : l.drop 0 = l := rfl
theorem get_kc16 (k : Key) (r : List AV) : (bs k.b ++ r)[16]? = r[0]? := by rw [List.getElem?_append_right (Nat.le_of_eq (kc_length k)), kc_length]
theorem get_kc17 (k : Key) (r : List AV) : (bs k.b ++ r)[17]? = r[1]? := by rw [List.getElem?_append_right (by rw [kc_length]; omega), kc_length]
theorem take_all {α : Type} {l : List α} {n : Nat} (h : l.length ≤ n) : l.take n = l := List.take_of_length_le h
theorem look_app (a b : List AV) : (a ++ b).map AV.look = a.map AV.look ++ b.map AV.look := List.map_append

theorem under_app' {n : Nat} (l l' : List AV) : AV.under.go n (l ++ l') = (AV.under.go n l && AV.under.go n l') := under_app

/-! reading -/
theorem readA_rop {σ : St} {cs : List AV} {n : Nat} (h : n ≤ cs.length) : readA σ (.rop cs) n = some (.agg (cs.take n)) := by simp [readA, readCells, h]
theorem readA_stk {S : List (List AV)} {l : List (List AV)} {H : List HObj} {j n off : Nat} (hj : j < l.length) (h : off + n ≤ (l.getD j []).length) : readA ⟨S ++ l, H⟩ (.ptr (.stk (S.length + j)) off) n = some (.agg ((((l.getD j []).drop off).take n).map AV.look)) := by
  have e : l[j]? = some (l.getD j []) := by simp [List.getD, hj]
  simp only [readA, readCells, boxOf_stk, app_get, e, Option.bind_some, if_pos h, Option.map_some]
theorem readA_stk0 {S : List (List AV)} {l : List (List AV)} {H : List HObj} {n off : Nat} (hj : 0 < l.length) (h : off + n ≤ (l.getD 0 []).length) : readA ⟨S ++ l, H⟩ (.ptr (.stk S.length) off) n = some (.agg ((((l.getD 0 []).drop off).take n).map AV.look)) := readA_stk (j := 0) hj h
/-! writing whole boxes -/
theorem storeL_stk {S : List (List AV)} {l : List (List AV)} {H : List HObj} {j n : Nat} {vs : List AV} (hj : j < l.length) (h : (l.getD j []).length = n) (hv : vs.length = n) (hn : 2 ≤ n) (hu : AV.under.go (S.length + j) vs = true) : storeL n (.ptr (.stk (S.length + j)) 0) (.agg vs) ⟨S ++ l, H⟩ = some ⟨S ++ l.set j vs, H⟩ := by
  have e : l[j]? = some (l.getD j []) := by simp [List.getD, hj]
  have hs : splice (l.getD j []) 0 vs = vs := by
    unfold splice
    split
    · simp at hv; omega
    · rw [List.take_zero, List.nil_append, Nat.zero_add, hv, List.drop_of_length_le (Nat.le_of_eq h), List.append_nil]
  simp only [storeL, AV.cells, AV.fit, hv, writeCells, boxOf_stk, app_get, e, Option.bind_some, hs, setBox_stk, app_set, mayHold, hu, h, Nat.zero_add, Nat.le_refl, decide_true, Bool.and_self, if_true, true_and]
  rw [if_pos (by simp; omega)]
theorem storeL_stk0 {S : List (List AV)} {l : List (List AV)} {H : List HObj} {n : Nat} {vs : List AV} (hj : 0 < l.length) (h : (l.getD 0 []).length = n) (hv : vs.length = n) (hn : 2 ≤ n) (hu : AV.under.go S.length vs = true) : storeL n (.ptr (.stk S.length) 0) (.agg vs) ⟨S ++ l, H⟩ = some ⟨S ++ l.set 0 vs, H⟩ := storeL_stk (j := 0) hj h hv hn hu

theorem storeL1_stk {S : List (List AV)} {l : List (List AV)} {H : List HObj} {j off : Nat} {v : AV} (hj : j < l.length) (h : off < (l.getD j []).length) (hc : v.cells = [v]) (hf : v.fit = true) (hu : AV.under (S.length + j) v = true) : storeL 1 (.ptr (.stk (S.length + j)) off) v ⟨S ++ l, H⟩ = some ⟨S ++ l.set j ((l.getD j []).set off v), H⟩ := by
  have e : l[j]? = some (l.getD j []) := by simp [List.getD, hj]
  have h1 : off + 1 ≤ (l.getD j []).length := h
  simp only [storeL, hc, hf, List.length_cons, List.length_nil, writeCells, boxOf_stk, app_get, e, Option.bind_some, splice, setBox_stk, app_set, mayHold, AV.under.go, hu, Nat.zero_add, h1, decide_true, Bool.and_self, if_true, true_and, and_self]
  rw [if_pos (by simp)]
theorem storeL1_stk0 {S : List (List AV)} {l : List (List AV)} {H : List HObj} {off : Nat} {v : AV} (hj : 0 < l.length) (h : off < (l.getD 0 []).length) (hc : v.cells = [v]) (hf : v.fit = true) (hu : AV.under S.length v = true) : storeL 1 (.ptr (.stk S.length) off) v ⟨S ++ l, H⟩ = some ⟨S ++ l.set 0 ((l.getD 0 []).set off v), H⟩ := storeL1_stk (j := 0) hj h hc hf hu
theorem storeS_stk {S : List (List AV)} {l : List (List AV)} {H : List HObj} {j off : Nat} {x : Sc} (hj : j < l.length) (h : off < (l.getD j []).length) : storeL 1 (.ptr (.stk (S.length + j)) off) (.s x) ⟨S ++ l, H⟩ = some ⟨S ++ l.set j ((l.getD j []).set off (.s x)), H⟩ := storeL1_stk hj h rfl rfl rfl
theorem storeS_stk0 {S : List (List AV)} {l : List (List AV)} {H : List HObj} {off : Nat} {x : Sc} (hj : 0 < l.length) (h : off < (l.getD 0 []).length) : storeL 1 (.ptr (.stk S.length) off) (.s x) ⟨S ++ l, H⟩ = some ⟨S ++ l.set 0 ((l.getD 0 []).set off (.s x)), H⟩ := storeL1_stk0 hj h rfl rfl rfl
theorem storeQ_stk {S : List (List AV)} {l : List (List AV)} {H : List HObj} {j off sz : Nat} {fl : Fl} {es : List AV} (hj : j < l.length) (h : off < (l.getD j []).length) : storeL 1 (.ptr (.stk (S.length + j)) off) (.list fl sz es) ⟨S ++ l, H⟩ = some ⟨S ++ l.set j ((l.getD j []).set off (.list fl sz es)), H⟩ := storeL1_stk hj h rfl rfl rfl
theorem storeQ_stk0 {S : List (List AV)} {l : List (List AV)} {H : List HObj} {off sz : Nat} {fl : Fl} {es : List AV} (hj : 0 < l.length) (h : off < (l.getD 0 []).length) : storeL 1 (.ptr (.stk S.length) off) (.list fl sz es) ⟨S ++ l, H⟩ = some ⟨S ++ l.set 0 ((l.getD 0 []).set off (.list fl sz es)), H⟩ := storeL1_stk0 hj h rfl rfl rfl
theorem cellsOf_some {cs : List AV} : cellsOf? (some (.cells cs)) = some cs := rfl
theorem under_s {n : Nat} {x : Sc} : AV.under n (.s x) = true := rfl
theorem cells_s {x : Sc} : (AV.s x).cells = [.s x] := rfl
theorem fit_s {x : Sc} : (AV.s x).fit = true := rfl
theorem under_list {n sz : Nat} {fl : Fl} {es : List AV} : AV.under n (.list fl sz es) = true := rfl
theorem cells_list {sz : Nat} {fl : Fl} {es : List AV} : (AV.list fl sz es).cells = [.list fl sz es] := rfl
theorem fit_list {sz : Nat} {fl : Fl} {es : List AV} : (AV.list fl sz es).fit = true := rfl
theorem cells_u8 {x : UInt8} : (u8 x).cells = [u8 x] := rfl
theorem fit_u8 {x : UInt8} : (u8 x).fit = true := rfl

/-- A key as a value. -/
def kA (k : Key) : AV := .agg (bs k.b)
theorem kA_cells {k : Key} : (kA k).cells = bs k.b := rfl
theorem kA_under {n : Nat} {k : Key} : AV.under n (kA k) = true := by simp [kA, AV.under, under_bs]
theorem kA_low {n : Nat} : ∀ {l : List Key}, AV.under.go n (l.map kA) = true
  | [] => rfl
  | k :: l => by simp only [List.map_cons, AV.under.go, kA_under, kA_low (l := l), Bool.and_self]
theorem kA_calm {k : Key} : (kA k).calm = kA k := rfl

/-- Any list that nobody writes into. -/
theorem elems_list {e : ET} {fl : Fl} {es : List AV} {σ : St} : elemsL e (.list fl e.c es) σ = some es := by simp [elemsL]

/-! lists -/
theorem ixl_map {α : Type} {f : α → AV} {l : List α} {i c : Nat} {k : IntKind} (h : i < l.length) (hc : c ≠ 0) : indexAddrL (.sl c) (.list .sh c (l.map f)) (.s (.int k (i : Int))) = some (.rop (f l[i]).cells) := by
  have h1 : (0 : Int) ≤ i := by omega
  have h2 : (i : Int) < (l.map f).length := by simp; omega
  simp only [indexAddrL, h1, h2, hc, ne_eq, not_false_eq_true, reduceCtorEq, and_self, if_true, Int.toNat_natCast]
  simp [List.getD, h]
theorem ixl_k {l : List Key} {i c : Nat} {k : IntKind} (h : i < l.length) (hc : c ≠ 0) : indexAddrL (.sl c) (.list .sh c (l.map kA)) (.s (.int k (i : Int))) = some (.rop (bs (l[i]).b)) := ixl_map h hc
theorem lenL_list {σ : St} {fl : Fl} {c : Nat} {es : List AV} : lenL .sl (.list fl c es) σ = some es.length := rfl
theorem lenL_str {σ : St} {l : List UInt8} : lenL .str (.s (.str l)) σ = some l.length := rfl

/-! comparing -/
theorem u8_inj {a b : UInt8} : AV.beq (u8 a) (u8 b) = decide (a = b) := by
  simp only [u8, AV.beq]
  by_cases h : a = b
  · simp [h]
  · have : ¬ ((a.toNat : Int) = b.toNat) := fun e => h (UInt8.toNat_inj.1 (by omega))
    simp [h, this]
theorem beq_bs : ∀ (a b : List UInt8), AV.beq.go (bs a) (bs b) = decide (a = b)
  | [], [] => rfl
  | [], _ :: _ => rfl
  | _ :: _, [] => rfl
  | x :: a, y :: b => by
    show (AV.beq (u8 x) (u8 y) && AV.beq.go (bs a) (bs b)) = _
    rw [u8_inj, beq_bs a b]
    by_cases h1 : x = y <;> by_cases h2 : a = b <;> simp [h1, h2]
theorem beq_app : ∀ (a b c d : List AV), a.length = b.length → AV.beq.go (a ++ c) (b ++ d) = (AV.beq.go a b && AV.beq.go c d)
  | [], [], c, d, _ => by simp [AV.beq.go]
  | [], _ :: _, _, _, h => by simp at h
  | _ :: _, [], _, _, h => by simp at h
  | x :: a, y :: b, c, d, h => by simp only [List.cons_append, AV.beq.go, beq_app a b c d (by simpa using h), Bool.and_assoc]
theorem beq_app_k (a b : Key) (c d : List AV) : AV.beq.go (bs a.b ++ c) (bs b.b ++ d) = (AV.beq.go (bs a.b) (bs b.b) && AV.beq.go c d) := beq_app _ _ _ _ (by rw [kc_length, kc_length])
theorem beq_kk (a b : Key) : AV.beq.go (bs a.b) (bs b.b) = decide (a = b) := by
  rw [beq_bs]
  by_cases h : a = b
  · simp [h]
  · have : ¬ a.b = b.b := fun e => h (Key.ext' e)
    simp [h, this]
theorem fits_bs : ∀ (l : List UInt8), fitsL (List.replicate l.length (.int .u8)) (bs l) = true
  | [] => rfl
  | x :: l => by
    show (_ && fitsL (List.replicate l.length (.int .u8)) (bs l)) = true
    rw [fits_bs l]; rfl
theorem fits_app : ∀ (a : List LK) (b : List LK) (c d : List AV), a.length = c.length → fitsL (a ++ b) (c ++ d) = (fitsL a c && fitsL b d)
  | [], _, [], _, _ => by simp [fitsL]
  | [], _, _ :: _, _, h => by simp at h
  | _ :: _, _, [], _, h => by simp at h
  | k :: a, b, x :: c, d, h => by simp only [List.cons_append, fitsL, fits_app a b c d (by simpa using h), Bool.and_assoc]
theorem fits_k (k : Key) : fitsL lk (bs k.b) = true := by
  have := fits_bs k.b
  rw [k.h] at this
  exact this
theorem fits_kr (k : Key) (ls : List LK) (r : List AV) : fitsL (lk ++ ls) (bs k.b ++ r) = fitsL ls r := by
  rw [fits_app _ _ _ _ (by rw [kc_length]; rfl), fits_k, Bool.true_and]

theorem slice_box {n c : Nat} {r : Ref} (h : 0 < n) (hc : c ≠ 0) : sliceL (.arr n c) (.ptr r 0) none none none = some (.row r 0 n n) := by
  simp [sliceL, bound, hc, h]
theorem fillL_nil {cs : List AV} : fillL cs [] = some cs := rfl
theorem len_map' {α β : Type} (f : α → β) (l : List α) : (l.map f).length = l.length := List.length_map _
end Go.AM
/-! Writes. -/
namespace Go.AM
open Go
set_option linter.unusedVariables false
set_option linter.unusedSimpArgs false

structure Wr where
  key : Key
  val : List UInt8
  gone : Bool
  deriving DecidableEq

def wc (w : Wr) : List AV := bs w.key.b ++ [.s (.str w.val), .s (.bool w.gone)]
def wA (w : Wr) : AV := .agg (wc w)
theorem wc_length (w : Wr) : (wc w).length = 18 := by simp [wc, kc_length]
theorem wc_under {n : Nat} {w : Wr} : AV.under.go n (wc w) = true := by simp [wc, under_app', under_bs, AV.under, AV.under.go]
theorem wA_under {n : Nat} {w : Wr} : AV.under n (wA w) = true := wc_under
theorem wA_low {n : Nat} : ∀ {l : List Wr}, AV.under.go n (l.map wA) = true
  | [] => rfl
  | k :: l => by simp only [List.map_cons, AV.under.go, wA_under, wA_low (l := l), Bool.and_self]
theorem look_wc (w : Wr) : (wc w).map AV.look = wc w := by
  rw [wc, look_app, map_look_bs]; rfl
theorem beq_wc (a b : Wr) : AV.beq.go (wc a) (wc b) = decide (a = b) := by
  rw [wc, wc, beq_app_k, beq_kk]
  cases a; cases b
  simp [AV.beq.go, AV.beq, Wr.mk.injEq, Bool.decide_and, Bool.and_assoc]
theorem fits_wc (w : Wr) : fitsL (lk ++ [.str, .bool]) (wc w) = true := by rw [wc, fits_kr]; rfl
theorem ixl_w {l : List Wr} {i c : Nat} {k : IntKind} (h : i < l.length) (hc : c ≠ 0) : indexAddrL (.sl c) (.list .sh c (l.map wA)) (.s (.int k (i : Int))) = some (.rop (wc l[i])) := ixl_map h hc
theorem take_wc (w : Wr) : (wc w).take 18 = wc w := List.take_of_length_le (Nat.le_of_eq (wc_length w))
theorem take_wk (w : Wr) : (wc w).take 16 = bs w.key.b := take_kc _ _
theorem drop_wc (w : Wr) : (wc w).drop 16 = [.s (.str w.val), .s (.bool w.gone)] := drop_kc _ _
def lstW (l : List Wr) : AV := .list .sh 18 (l.map wA)
theorem shift_rop {cs : List AV} {o : Nat} : shift (.rop cs) o = some (.rop (cs.drop o)) := rfl
theorem load1_rop {σ : St} {v : AV} {cs : List AV} : load1L false (.rop (v :: cs)) σ = some (v, σ) := rfl

theorem WkF.full {sz : Nat} {es as bs : List AV} (h : WkF as bs) : WkF (.list .full sz es :: as) (.list .sh sz es :: bs) := .wk (show WkL [.list .full sz es] _ from .full .nil) h
theorem WkF.own {sz : Nat} {es as bs : List AV} (h : WkF as bs) : WkF (.list .own sz es :: as) (.list .sh sz es :: bs) := .wk (show WkL [.list .sh sz es] _ from .same .nil) h
theorem WkF.uniq {sz : Nat} {es as bs : List AV} (h : WkF as bs) : WkF (.list .uniq sz es :: as) (.list .sh sz es :: bs) := .wk (show WkL [.list .sh sz es] _ from .same .nil) h
theorem WkF.nilS {sz : Nat} {as bs : List AV} (hs : 0 < sz) (h : WkF as bs) : WkF (.s .nilS :: as) (.list .sh sz [] :: bs) := .wk (show WkL [.s .nilS] _ from .nilS hs .nil) h

def WkC (C : CallW) : Prop := ∀ t as bs σ K, WkF as bs → C t bs σ K → C t as σ K
end Go.AM
/-! Reads that are checked again behind a move. -/
namespace Go.AM
open Go
set_option linter.unusedVariables false

def okC (s : LStep) (fr : Fr) (v : AV) (σ : St) : Option Bool → Prop
  | some true => sameV (readL s fr σ) v = true
  | some false => AV.beq (.tup []) v = true
  | none => False
def okAll (drop : List Nat) (σ : St) : List LChk → Prop
  | [] => True
  | c :: cs => (drop.contains c.i = false → okC c.s c.fr c.v σ (guardL c.fr c.s.guard)) ∧ okAll drop σ cs
def leftC (drop : List Nat) : List LChk → List LChk
  | [] => []
  | c :: cs => if drop.contains c.i = true then leftC drop cs else c :: leftC drop cs
theorem okAll_nil {drop σ} : okAll drop σ [] = True := rfl
theorem okAll_cons {drop σ i s fr v cs} : okAll drop σ (⟨i, s, fr, v⟩ :: cs) = ((drop.contains i = false → okC s fr v σ (guardL fr s.guard)) ∧ okAll drop σ cs) := (rfl)
theorem leftC_nil {drop} : leftC drop [] = [] := rfl
theorem leftC_cons {drop i s fr v cs} : leftC drop (⟨i, s, fr, v⟩ :: cs) = if drop.contains i = true then leftC drop cs else ⟨i, s, fr, v⟩ :: leftC drop cs := (rfl)
theorem okC_true {s fr v σ} : okC s fr v σ (some true) = (sameV (readL s fr σ) v = true) := (rfl)
theorem okC_false {s fr v σ} : okC s fr v σ (some false) = (AV.beq (.tup []) v = true) := (rfl)
theorem sameV_some {u v} : sameV (some u) v = u.beq v := (rfl)
theorem leftC_eq {drop : List Nat} : ∀ (l : List LChk), (l.filter fun c => !drop.contains c.i) = leftC drop l
  | [] => rfl
  | c :: cs => by
    rw [List.filter_cons, leftC, leftC_eq cs]
    cases drop.contains c.i <;> rfl
theorem okAll_eq {drop : List Nat} {σ : St} : ∀ {l : List LChk}, okAll drop σ l → (l.filter fun c => !drop.contains c.i).all (fun c => c.ok σ) = true
  | [], _ => rfl
  | c :: cs, h => by
    rw [List.filter_cons]
    have h2 := okAll_eq h.2
    cases hd : drop.contains c.i with
    | true => simpa [hd] using h2
    | false =>
      have h1 := h.1 hd
      have hc : c.ok σ = true := by
        unfold LChk.ok
        cases hg : guardL c.fr c.s.guard with
        | none => rw [hg] at h1; exact h1.elim
        | some b => rw [hg] at h1; cases b <;> exact h1
      simp only [Bool.not_false, if_true, List.all_cons, hc, h2, Bool.and_self]
theorem mvK_chk {C : CallW} {P : Program} {rd : Bool} {drop chk rest is K fr σ} (h : okAll drop σ chk ∧ runT C P rd rest (leftC drop chk) is fr σ K) : mvK C P rd drop chk rest is K fr σ := by
  refine ⟨okAll_eq h.1, ?_⟩
  rw [leftC_eq]; exact h.2
theorem okAll_iff {drop : List Nat} {σ : St} : ∀ {l : List LChk}, (l.filter fun c => !drop.contains c.i).all (fun c => c.ok σ) = true → okAll drop σ l
  | [], _ => trivial
  | c :: cs, h => by
    rw [List.filter_cons] at h
    cases hd : drop.contains c.i with
    | true =>
      rw [hd] at h
      refine ⟨fun e => ?_, okAll_iff (by simpa using h)⟩
      rw [hd] at e; cases e
    | false =>
      rw [hd] at h
      simp only [Bool.not_false, if_true, List.all_cons, Bool.and_eq_true] at h
      refine ⟨fun _ => ?_, okAll_iff h.2⟩
      have h1 := h.1
      unfold LChk.ok at h1
      cases hg : guardL c.fr c.s.guard with
      | none => rw [hg] at h1; cases h1
      | some b => rw [hg] at h1; cases b <;> exact h1
theorem mvK_cons {C : CallW} {P : Program} {rd : Bool} {drop c chk rest is K fr σ} : mvK C P rd drop (c :: chk) rest is K fr σ = (okAll drop σ (c :: chk) ∧ runT C P rd rest (leftC drop (c :: chk)) is fr σ K) :=
  propext ⟨fun h => ⟨okAll_iff h.1, by have := h.2; rwa [leftC_eq] at this⟩, mvK_chk⟩
end Go.AM
/-! The equations of a run, bundled. -/
namespace Go.AM
open Go
set_option linter.unusedVariables false
theorem RUN_ :
  (((((((type_of% @Go.AM.runC_skip ∧ (type_of% @Go.AM.runC_sq ∧ type_of% @Go.AM.runC_tree)) ∧ ((type_of% @Go.AM.runC_seq ∧ type_of% @Go.AM.runC_cond) ∧ (type_of% @Go.AM.runC_block ∧ type_of% @Go.AM.runC_exit))) ∧ (((type_of% @Go.AM.runC_ret ∧ type_of% @Go.AM.runC_loop) ∧ (type_of% @Go.AM.cnd_true ∧ type_of% @Go.AM.cnd_false)) ∧ ((type_of% @Go.AM.nxt_nil ∧ type_of% @Go.AM.nxt_c) ∧ (type_of% @Go.AM.nxt_blk ∧ type_of% @Go.AM.nxt_lp)))) ∧ ((((type_of% @Go.AM.ext_nil ∧ type_of% @Go.AM.ext_c) ∧ (type_of% @Go.AM.ext_blk ∧ type_of% @Go.AM.ext_lp)) ∧ ((type_of% @Go.AM.rtn_nil ∧ type_of% @Go.AM.rtn_c) ∧ (type_of% @Go.AM.rtn_blk ∧ type_of% @Go.AM.rtn_lp))) ∧ (((type_of% @Go.AM.runS_nil ∧ type_of% @Go.AM.runS_op) ∧ (type_of% @Go.AM.runS_grd ∧ type_of% @Go.AM.grd_true)) ∧ ((type_of% @Go.AM.grd_false ∧ type_of% @Go.AM.thn_some) ∧ (type_of% @Go.AM.opS_call ∧ type_of% @Go.AM.call_fn))))) ∧ ((((type_of% @Go.AM.call_yield ∧ (type_of% @Go.AM.bak_eq ∧ type_of% @Go.AM.mb_t)) ∧ ((type_of% @Go.AM.mb_f ∧ type_of% @Go.AM.mayb_sc) ∧ (type_of% @Go.AM.mayb_bl ∧ type_of% @Go.AM.mayb_leaf))) ∧ (((type_of% @Go.AM.mayb_r0 ∧ type_of% @Go.AM.mayb_r1) ∧ (type_of% @Go.AM.mayb_r2 ∧ type_of% @Go.AM.mayb_r3)) ∧ ((type_of% @Go.AM.isEq.eq_1 ∧ type_of% @Go.AM.isEq.eq_2) ∧ (type_of% @Go.AM.isEq.eq_3 ∧ type_of% @Go.AM.maybeNil.eq_1)))) ∧ ((((type_of% @Go.AM.maybeNil.eq_2 ∧ type_of% @Go.AM.maybeNil.eq_3) ∧ (type_of% @Go.AM.runT_done ∧ type_of% @Go.AM.runT_stop)) ∧ ((type_of% @Go.AM.runT_rd ∧ type_of% @Go.AM.rdG_true) ∧ (type_of% @Go.AM.rdG_false ∧ type_of% @Go.AM.rdV_some))) ∧ (((type_of% @Go.AM.runT_mv ∧ type_of% @Go.AM.mvG_true) ∧ (type_of% @Go.AM.mvG_false ∧ type_of% @Go.AM.t_mv)) ∧ ((type_of% @Go.AM.t_pick ∧ type_of% @Go.AM.t_alloc) ∧ (type_of% @Go.AM.t_box ∧ type_of% @Go.AM.t_build)))))) ∧ (((((type_of% @Go.AM.t_bsl ∧ (type_of% @Go.AM.t_loadA ∧ type_of% @Go.AM.t_load1)) ∧ ((type_of% @Go.AM.t_store ∧ type_of% @Go.AM.t_nilc) ∧ (type_of% @Go.AM.t_bin ∧ type_of% @Go.AM.t_un))) ∧ (((type_of% @Go.AM.t_conv ∧ type_of% @Go.AM.t_mkfn) ∧ (type_of% @Go.AM.t_mkmap ∧ type_of% @Go.AM.t_mksl)) ∧ ((type_of% @Go.AM.t_slc ∧ type_of% @Go.AM.t_shift) ∧ (type_of% @Go.AM.t_part ∧ type_of% @Go.AM.t_ixa)))) ∧ ((((type_of% @Go.AM.t_ixs ∧ type_of% @Go.AM.t_ixv) ∧ (type_of% @Go.AM.t_look ∧ type_of% @Go.AM.t_upd)) ∧ ((type_of% @Go.AM.t_ext ∧ type_of% @Go.AM.t_len) ∧ (type_of% @Go.AM.t_cap ∧ type_of% @Go.AM.t_app))) ∧ (((type_of% @Go.AM.t_cpy ∧ type_of% @Go.AM.t_del) ∧ (type_of% @Go.AM.t_clr ∧ type_of% @Go.AM.t_mn)) ∧ ((type_of% @Go.AM.t_mx ∧ type_of% @Go.AM.t_thaw) ∧ (type_of% @Go.AM.t_frz ∧ type_of% @Go.AM.thnT_some))))) ∧ (((((type_of% @Go.AM.opT_call ∧ type_of% @Go.AM.callT_fn) ∧ (type_of% @Go.AM.callT_yield ∧ type_of% @Go.AM.bakT_eq)) ∧ ((type_of% @Go.AM.mvK_nil ∧ type_of% @Go.AM.readL.eq_1) ∧ (type_of% @Go.AM.LOp.opds.eq_1 ∧ type_of% @Go.AM.LOp.opds.eq_2))) ∧ (((type_of% @Go.AM.LOp.opds.eq_3 ∧ type_of% @Go.AM.LOp.opds.eq_4) ∧ (type_of% @Go.AM.LOp.opds.eq_5 ∧ type_of% @Go.AM.LOp.opds.eq_6)) ∧ ((type_of% @Go.AM.LOp.opds.eq_7 ∧ type_of% @Go.AM.LOp.opds.eq_8) ∧ (type_of% @Go.AM.LOp.opds.eq_9 ∧ type_of% @Go.AM.LOp.opds.eq_10)))) ∧ ((((type_of% @Go.AM.LOp.opds.eq_11 ∧ type_of% @Go.AM.LOp.opds.eq_12) ∧ (type_of% @Go.AM.LOp.opds.eq_13 ∧ type_of% @Go.AM.LOp.opds.eq_14)) ∧ ((type_of% @Go.AM.LOp.opds.eq_15 ∧ type_of% @Go.AM.LOp.opds.eq_16) ∧ (type_of% @Go.AM.LOp.opds.eq_17 ∧ type_of% @Go.AM.LOp.opds.eq_18))) ∧ (((type_of% @Go.AM.LOp.opds.eq_19 ∧ type_of% @Go.AM.LOp.opds.eq_20) ∧ (type_of% @Go.AM.LOp.opds.eq_21 ∧ type_of% @Go.AM.LOp.opds.eq_22)) ∧ ((type_of% @Go.AM.LOp.opds.eq_23 ∧ type_of% @Go.AM.LOp.opds.eq_24) ∧ (type_of% @Go.AM.LOp.opds.eq_25 ∧ type_of% @Go.AM.LOp.opds.eq_26))))))) ∧ ((((((type_of% @Go.AM.LOp.opds.eq_27 ∧ (type_of% @Go.AM.LOp.opds.eq_28 ∧ type_of% @Go.AM.LOp.opds.eq_29)) ∧ ((type_of% @Go.AM.LOp.opds.eq_30 ∧ type_of% @Go.AM.LOp.opds.eq_31) ∧ (type_of% @Go.AM.LOp.opds.eq_32 ∧ type_of% @Go.AM.LOp.opds.eq_33))) ∧ (((type_of% @Go.AM.LOp.opds.eq_34 ∧ type_of% @Go.AM.LOp.opds.eq_35) ∧ (type_of% @Go.AM.LOp.opds.eq_36 ∧ type_of% @Go.AM.LOp.opds.eq_37)) ∧ ((type_of% @Go.AM.LOp.opds.eq_38 ∧ type_of% @Go.AM.LOp.opds.eq_39) ∧ (type_of% @Go.AM.calmL.eq_1 ∧ type_of% @Go.AM.calmL.eq_2)))) ∧ ((((type_of% @Go.AM.AV.isUniq.eq_1 ∧ type_of% @Go.AM.AV.isUniq.eq_2) ∧ (type_of% @Go.AM.depL.eq_1 ∧ type_of% @Go.AM.depL.eq_2)) ∧ ((type_of% @Go.AM.depL.eq_3 ∧ type_of% @Go.AM.depL.eq_4) ∧ (type_of% @Go.AM.depL.eq_5 ∧ type_of% @Go.AM.depL.eq_6))) ∧ (((type_of% @Go.AM.depL.eq_7 ∧ type_of% @Go.AM.settledL.eq_1) ∧ (type_of% @Go.AM.settledL.eq_2 ∧ type_of% @Go.AM.settledL.eq_3)) ∧ ((type_of% @Go.AM.settledL.eq_4 ∧ type_of% @Go.AM.settledL.eq_5) ∧ (type_of% @Go.AM.settledL.eq_6 ∧ type_of% @Go.AM.settledL.eq_7))))) ∧ ((((type_of% @Go.AM.settledL.eq_8 ∧ (type_of% @Go.AM.settledL.eq_9 ∧ type_of% @Go.AM.settledL.eq_10)) ∧ ((type_of% @Option.toList_none.{0} ∧ type_of% @Option.toList_some.{0}) ∧ (type_of% @Go.AM.e_mv ∧ type_of% @Go.AM.e_pick))) ∧ (((type_of% @Go.AM.e_alloc ∧ type_of% @Go.AM.e_box) ∧ (type_of% @Go.AM.e_build ∧ type_of% @Go.AM.e_bsl)) ∧ ((type_of% @Go.AM.e_loadA ∧ type_of% @Go.AM.e_load1) ∧ (type_of% @Go.AM.e_store ∧ type_of% @Go.AM.e_nilc)))) ∧ ((((type_of% @Go.AM.e_bin ∧ type_of% @Go.AM.e_un) ∧ (type_of% @Go.AM.e_conv ∧ type_of% @Go.AM.e_mkfn)) ∧ ((type_of% @Go.AM.e_mkmap ∧ type_of% @Go.AM.e_mksl) ∧ (type_of% @Go.AM.e_slc ∧ type_of% @Go.AM.e_shift))) ∧ (((type_of% @Go.AM.e_part ∧ type_of% @Go.AM.e_ixa) ∧ (type_of% @Go.AM.e_ixs ∧ type_of% @Go.AM.e_ixv)) ∧ ((type_of% @Go.AM.e_look ∧ type_of% @Go.AM.e_upd) ∧ (type_of% @Go.AM.e_ext ∧ type_of% @Go.AM.e_len)))))) ∧ (((((type_of% @Go.AM.e_cap ∧ (type_of% @Go.AM.e_app ∧ type_of% @Go.AM.e_cpy)) ∧ ((type_of% @Go.AM.e_del ∧ type_of% @Go.AM.e_clr) ∧ (type_of% @Go.AM.e_mn ∧ type_of% @Go.AM.e_mx))) ∧ (((type_of% @Go.AM.e_thaw ∧ type_of% @Go.AM.e_frz) ∧ (type_of% @Go.AM.evL.eq_1 ∧ type_of% @Go.AM.evL.eq_2)) ∧ ((type_of% @Go.AM.evL.eq_3 ∧ type_of% @Go.AM.evL.eq_4) ∧ (type_of% @Go.AM.evL.eq_5 ∧ type_of% @Go.AM.evL.eq_6)))) ∧ ((((type_of% @Go.AM.evL.eq_7 ∧ type_of% @Go.AM.evL.eq_8) ∧ (type_of% @Go.AM.evL.eq_9 ∧ type_of% @Go.AM.evL.eq_10)) ∧ ((type_of% @Go.AM.evL.eq_11 ∧ type_of% @Go.AM.evL.eq_12) ∧ (type_of% @Go.AM.evL.eq_13 ∧ type_of% @Go.AM.evL.eq_14))) ∧ (((type_of% @Go.AM.evL.eq_15 ∧ type_of% @Go.AM.evL.eq_16) ∧ (type_of% @Go.AM.evL.eq_17 ∧ type_of% @Go.AM.evL.eq_18)) ∧ ((type_of% @Go.AM.evL.eq_19 ∧ type_of% @Go.AM.evL.eq_20) ∧ (type_of% @Go.AM.evL.eq_21 ∧ type_of% @Go.AM.evL.eq_22))))) ∧ (((((type_of% @Go.AM.evL.eq_23 ∧ type_of% @Go.AM.evL.eq_24) ∧ (type_of% @Go.AM.evL.eq_25 ∧ type_of% @Go.AM.evL.eq_26)) ∧ ((type_of% @Go.AM.evL.eq_27 ∧ type_of% @Go.AM.evL.eq_28) ∧ (type_of% @Go.AM.evL.eq_29 ∧ type_of% @Go.AM.evL.eq_30))) ∧ (((type_of% @Go.AM.evL.eq_31 ∧ type_of% @Go.AM.evL.eq_32) ∧ (type_of% @Go.AM.evL.eq_33 ∧ type_of% @Go.AM.evL.eq_34)) ∧ ((type_of% @Go.AM.evL.eq_35 ∧ type_of% @Go.AM.evL.eq_36) ∧ (type_of% @Go.AM.evL.eq_37 ∧ type_of% @Go.AM.evL.eq_38)))) ∧ ((((type_of% @Go.AM.evL.eq_39 ∧ type_of% @Go.AM.evL.eq_40) ∧ (type_of% @Go.AM.run_fn ∧ type_of% @Go.AM.fin_ret)) ∧ ((type_of% @Go.AM.fin_normal ∧ type_of% @Go.AM.end1_nil) ∧ (type_of% @Go.AM.end1_one ∧ type_of% @Go.AM.end1_two))) ∧ (((type_of% @Go.AM.end1_three ∧ type_of% @Go.AM.end1_four) ∧ (type_of% @Go.AM.ress_nil ∧ type_of% @Go.AM.ress_t)) ∧ ((type_of% @Go.AM.ress_many ∧ type_of% @Go.AM.ress_one) ∧ (type_of% @Go.AM.cns_some ∧ type_of% @Go.AM.cns2_some)))))))) :=
  ⟨⟨⟨⟨⟨⟨⟨@Go.AM.runC_skip, ⟨@Go.AM.runC_sq, @Go.AM.runC_tree⟩⟩, ⟨⟨@Go.AM.runC_seq, @Go.AM.runC_cond⟩, ⟨@Go.AM.runC_block, @Go.AM.runC_exit⟩⟩⟩, ⟨⟨⟨@Go.AM.runC_ret, @Go.AM.runC_loop⟩, ⟨@Go.AM.cnd_true, @Go.AM.cnd_false⟩⟩, ⟨⟨@Go.AM.nxt_nil, @Go.AM.nxt_c⟩, ⟨@Go.AM.nxt_blk, @Go.AM.nxt_lp⟩⟩⟩⟩, ⟨⟨⟨⟨@Go.AM.ext_nil, @Go.AM.ext_c⟩, ⟨@Go.AM.ext_blk, @Go.AM.ext_lp⟩⟩, ⟨⟨@Go.AM.rtn_nil, @Go.AM.rtn_c⟩, ⟨@Go.AM.rtn_blk, @Go.AM.rtn_lp⟩⟩⟩, ⟨⟨⟨@Go.AM.runS_nil, @Go.AM.runS_op⟩, ⟨@Go.AM.runS_grd, @Go.AM.grd_true⟩⟩, ⟨⟨@Go.AM.grd_false, @Go.AM.thn_some⟩, ⟨@Go.AM.opS_call, @Go.AM.call_fn⟩⟩⟩⟩⟩, ⟨⟨⟨⟨@Go.AM.call_yield, ⟨@Go.AM.bak_eq, @Go.AM.mb_t⟩⟩, ⟨⟨@Go.AM.mb_f, @Go.AM.mayb_sc⟩, ⟨@Go.AM.mayb_bl, @Go.AM.mayb_leaf⟩⟩⟩, ⟨⟨⟨@Go.AM.mayb_r0, @Go.AM.mayb_r1⟩, ⟨@Go.AM.mayb_r2, @Go.AM.mayb_r3⟩⟩, ⟨⟨@Go.AM.isEq.eq_1, @Go.AM.isEq.eq_2⟩, ⟨@Go.AM.isEq.eq_3, @Go.AM.maybeNil.eq_1⟩⟩⟩⟩, ⟨⟨⟨⟨@Go.AM.maybeNil.eq_2, @Go.AM.maybeNil.eq_3⟩, ⟨@Go.AM.runT_done, @Go.AM.runT_stop⟩⟩, ⟨⟨@Go.AM.runT_rd, @Go.AM.rdG_true⟩, ⟨@Go.AM.rdG_false, @Go.AM.rdV_some⟩⟩⟩, ⟨⟨⟨@Go.AM.runT_mv, @Go.AM.mvG_true⟩, ⟨@Go.AM.mvG_false, @Go.AM.t_mv⟩⟩, ⟨⟨@Go.AM.t_pick, @Go.AM.t_alloc⟩, ⟨@Go.AM.t_box, @Go.AM.t_build⟩⟩⟩⟩⟩⟩, ⟨⟨⟨⟨⟨@Go.AM.t_bsl, ⟨@Go.AM.t_loadA, @Go.AM.t_load1⟩⟩, ⟨⟨@Go.AM.t_store, @Go.AM.t_nilc⟩, ⟨@Go.AM.t_bin, @Go.AM.t_un⟩⟩⟩, ⟨⟨⟨@Go.AM.t_conv, @Go.AM.t_mkfn⟩, ⟨@Go.AM.t_mkmap, @Go.AM.t_mksl⟩⟩, ⟨⟨@Go.AM.t_slc, @Go.AM.t_shift⟩, ⟨@Go.AM.t_part, @Go.AM.t_ixa⟩⟩⟩⟩, ⟨⟨⟨⟨@Go.AM.t_ixs, @Go.AM.t_ixv⟩, ⟨@Go.AM.t_look, @Go.AM.t_upd⟩⟩, ⟨⟨@Go.AM.t_ext, @Go.AM.t_len⟩, ⟨@Go.AM.t_cap, @Go.AM.t_app⟩⟩⟩, ⟨⟨⟨@Go.AM.t_cpy, @Go.AM.t_del⟩, ⟨@Go.AM.t_clr, @Go.AM.t_mn⟩⟩, ⟨⟨@Go.AM.t_mx, @Go.AM.t_thaw⟩, ⟨@Go.AM.t_frz, @Go.AM.thnT_some⟩⟩⟩⟩⟩, ⟨⟨⟨⟨⟨@Go.AM.opT_call, @Go.AM.callT_fn⟩, ⟨@Go.AM.callT_yield, @Go.AM.bakT_eq⟩⟩, ⟨⟨@Go.AM.mvK_nil, @Go.AM.readL.eq_1⟩, ⟨@Go.AM.LOp.opds.eq_1, @Go.AM.LOp.opds.eq_2⟩⟩⟩, ⟨⟨⟨@Go.AM.LOp.opds.eq_3, @Go.AM.LOp.opds.eq_4⟩, ⟨@Go.AM.LOp.opds.eq_5, @Go.AM.LOp.opds.eq_6⟩⟩, ⟨⟨@Go.AM.LOp.opds.eq_7, @Go.AM.LOp.opds.eq_8⟩, ⟨@Go.AM.LOp.opds.eq_9, @Go.AM.LOp.opds.eq_10⟩⟩⟩⟩, ⟨⟨⟨⟨@Go.AM.LOp.opds.eq_11, @Go.AM.LOp.opds.eq_12⟩, ⟨@Go.AM.LOp.opds.eq_13, @Go.AM.LOp.opds.eq_14⟩⟩, ⟨⟨@Go.AM.LOp.opds.eq_15, @Go.AM.LOp.opds.eq_16⟩, ⟨@Go.AM.LOp.opds.eq_17, @Go.AM.LOp.opds.eq_18⟩⟩⟩, ⟨⟨⟨@Go.AM.LOp.opds.eq_19, @Go.AM.LOp.opds.eq_20⟩, ⟨@Go.AM.LOp.opds.eq_21, @Go.AM.LOp.opds.eq_22⟩⟩, ⟨⟨@Go.AM.LOp.opds.eq_23, @Go.AM.LOp.opds.eq_24⟩, ⟨@Go.AM.LOp.opds.eq_25, @Go.AM.LOp.opds.eq_26⟩⟩⟩⟩⟩⟩⟩, ⟨⟨⟨⟨⟨⟨@Go.AM.LOp.opds.eq_27, ⟨@Go.AM.LOp.opds.eq_28, @Go.AM.LOp.opds.eq_29⟩⟩, ⟨⟨@Go.AM.LOp.opds.eq_30, @Go.AM.LOp.opds.eq_31⟩, ⟨@Go.AM.LOp.opds.eq_32, @Go.AM.LOp.opds.eq_33⟩⟩⟩, ⟨⟨⟨@Go.AM.LOp.opds.eq_34, @Go.AM.LOp.opds.eq_35⟩, ⟨@Go.AM.LOp.opds.eq_36, @Go.AM.LOp.opds.eq_37⟩⟩, ⟨⟨@Go.AM.LOp.opds.eq_38, @Go.AM.LOp.opds.eq_39⟩, ⟨@Go.AM.calmL.eq_1, @Go.AM.calmL.eq_2⟩⟩⟩⟩, ⟨⟨⟨⟨@Go.AM.AV.isUniq.eq_1, @Go.AM.AV.isUniq.eq_2⟩, ⟨@Go.AM.depL.eq_1, @Go.AM.depL.eq_2⟩⟩, ⟨⟨@Go.AM.depL.eq_3, @Go.AM.depL.eq_4⟩, ⟨@Go.AM.depL.eq_5, @Go.AM.depL.eq_6⟩⟩⟩, ⟨⟨⟨@Go.AM.depL.eq_7, @Go.AM.settledL.eq_1⟩, ⟨@Go.AM.settledL.eq_2, @Go.AM.settledL.eq_3⟩⟩, ⟨⟨@Go.AM.settledL.eq_4, @Go.AM.settledL.eq_5⟩, ⟨@Go.AM.settledL.eq_6, @Go.AM.settledL.eq_7⟩⟩⟩⟩⟩, ⟨⟨⟨⟨@Go.AM.settledL.eq_8, ⟨@Go.AM.settledL.eq_9, @Go.AM.settledL.eq_10⟩⟩, ⟨⟨@Option.toList_none.{0}, @Option.toList_some.{0}⟩, ⟨@Go.AM.e_mv, @Go.AM.e_pick⟩⟩⟩, ⟨⟨⟨@Go.AM.e_alloc, @Go.AM.e_box⟩, ⟨@Go.AM.e_build, @Go.AM.e_bsl⟩⟩, ⟨⟨@Go.AM.e_loadA, @Go.AM.e_load1⟩, ⟨@Go.AM.e_store, @Go.AM.e_nilc⟩⟩⟩⟩, ⟨⟨⟨⟨@Go.AM.e_bin, @Go.AM.e_un⟩, ⟨@Go.AM.e_conv, @Go.AM.e_mkfn⟩⟩, ⟨⟨@Go.AM.e_mkmap, @Go.AM.e_mksl⟩, ⟨@Go.AM.e_slc, @Go.AM.e_shift⟩⟩⟩, ⟨⟨⟨@Go.AM.e_part, @Go.AM.e_ixa⟩, ⟨@Go.AM.e_ixs, @Go.AM.e_ixv⟩⟩, ⟨⟨@Go.AM.e_look, @Go.AM.e_upd⟩, ⟨@Go.AM.e_ext, @Go.AM.e_len⟩⟩⟩⟩⟩⟩, ⟨⟨⟨⟨⟨@Go.AM.e_cap, ⟨@Go.AM.e_app, @Go.AM.e_cpy⟩⟩, ⟨⟨@Go.AM.e_del, @Go.AM.e_clr⟩, ⟨@Go.AM.e_mn, @Go.AM.e_mx⟩⟩⟩, ⟨⟨⟨@Go.AM.e_thaw, @Go.AM.e_frz⟩, ⟨@Go.AM.evL.eq_1, @Go.AM.evL.eq_2⟩⟩, ⟨⟨@Go.AM.evL.eq_3, @Go.AM.evL.eq_4⟩, ⟨@Go.AM.evL.eq_5, @Go.AM.evL.eq_6⟩⟩⟩⟩, ⟨⟨⟨⟨@Go.AM.evL.eq_7, @Go.AM.evL.eq_8⟩, ⟨@Go.AM.evL.eq_9, @Go.AM.evL.eq_10⟩⟩, ⟨⟨@Go.AM.evL.eq_11, @Go.AM.evL.eq_12⟩, ⟨@Go.AM.evL.eq_13, @Go.AM.evL.eq_14⟩⟩⟩, ⟨⟨⟨@Go.AM.evL.eq_15, @Go.AM.evL.eq_16⟩, ⟨@Go.AM.evL.eq_17, @Go.AM.evL.eq_18⟩⟩, ⟨⟨@Go.AM.evL.eq_19, @Go.AM.evL.eq_20⟩, ⟨@Go.AM.evL.eq_21, @Go.AM.evL.eq_22⟩⟩⟩⟩⟩, ⟨⟨⟨⟨⟨@Go.AM.evL.eq_23, @Go.AM.evL.eq_24⟩, ⟨@Go.AM.evL.eq_25, @Go.AM.evL.eq_26⟩⟩, ⟨⟨@Go.AM.evL.eq_27, @Go.AM.evL.eq_28⟩, ⟨@Go.AM.evL.eq_29, @Go.AM.evL.eq_30⟩⟩⟩, ⟨⟨⟨@Go.AM.evL.eq_31, @Go.AM.evL.eq_32⟩, ⟨@Go.AM.evL.eq_33, @Go.AM.evL.eq_34⟩⟩, ⟨⟨@Go.AM.evL.eq_35, @Go.AM.evL.eq_36⟩, ⟨@Go.AM.evL.eq_37, @Go.AM.evL.eq_38⟩⟩⟩⟩, ⟨⟨⟨⟨@Go.AM.evL.eq_39, @Go.AM.evL.eq_40⟩, ⟨@Go.AM.run_fn, @Go.AM.fin_ret⟩⟩, ⟨⟨@Go.AM.fin_normal, @Go.AM.end1_nil⟩, ⟨@Go.AM.end1_one, @Go.AM.end1_two⟩⟩⟩, ⟨⟨⟨@Go.AM.end1_three, @Go.AM.end1_four⟩, ⟨@Go.AM.ress_nil, @Go.AM.ress_t⟩⟩, ⟨⟨@Go.AM.ress_many, @Go.AM.ress_one⟩, ⟨@Go.AM.cns_some, @Go.AM.cns2_some⟩⟩⟩⟩⟩⟩⟩⟩
theorem FR_ :
  ((((((type_of% @Go.AM.putA.eq_1 ∧ (type_of% @Go.AM.putA.eq_2 ∧ type_of% @Go.AM.opL.eq_1)) ∧ (type_of% @Go.AM.opL.eq_2 ∧ (type_of% @Go.AM.opL.eq_3 ∧ type_of% @Go.AM.opL.eq_4))) ∧ ((type_of% @Go.AM.seL.eq_1 ∧ (type_of% @Go.AM.tkL.eq_1 ∧ type_of% @Go.AM.tkL.eq_2)) ∧ ((type_of% @Go.AM.tkL.eq_3 ∧ type_of% @Go.AM.tkAllL.eq_1) ∧ (type_of% @Go.AM.tkAllL.eq_2 ∧ type_of% @Go.AM.sharedL.eq_1)))) ∧ (((type_of% @Go.AM.sharedL.eq_2 ∧ (type_of% @Go.AM.settleL.eq_1 ∧ type_of% @Go.AM.settleL.eq_2)) ∧ ((type_of% @Go.AM.guardL.eq_1 ∧ type_of% @Go.AM.guardL.eq_2) ∧ (type_of% @Go.AM.AV.look.eq_1 ∧ type_of% @Go.AM.AV.look.eq_2))) ∧ ((type_of% @Go.AM.AV.look.eq_3 ∧ (type_of% @Go.AM.AV.sh.eq_1 ∧ type_of% @Go.AM.AV.sh.eq_2)) ∧ ((type_of% @Go.AM.AV.sh.eq_3 ∧ type_of% @Go.AM.AV.left.eq_1) ∧ (type_of% @Go.AM.AV.left.eq_2 ∧ type_of% @Go.AM.AV.left.eq_3))))) ∧ ((((type_of% @Go.AM.AV.calm.eq_1 ∧ (type_of% @Go.AM.AV.calm.eq_2 ∧ type_of% @Go.AM.AV.cells.eq_1)) ∧ (type_of% @Go.AM.AV.cells.eq_2 ∧ (type_of% @Go.AM.AV.fit.eq_1 ∧ type_of% @Go.AM.AV.fit.eq_2))) ∧ ((type_of% @Go.AM.AV.fit.eq_3 ∧ (type_of% @Go.AM.AV.isSlice.eq_1 ∧ type_of% @Go.AM.AV.isSlice.eq_2)) ∧ ((type_of% @Go.AM.AV.isSlice.eq_3 ∧ type_of% @Go.AM.AV.isSlice.eq_4) ∧ (type_of% @Go.AM.AV.isStr.eq_1 ∧ type_of% @Go.AM.AV.isStr.eq_2)))) ∧ (((type_of% @Go.AM.AV.nilKind.eq_1 ∧ (type_of% @Go.AM.AV.nilKind.eq_2 ∧ type_of% @Go.AM.AV.nilKind.eq_3)) ∧ ((type_of% @Go.AM.AV.nilKind.eq_4 ∧ type_of% @Go.AM.AV.nilKind.eq_5) ∧ (type_of% @Go.AM.AV.refKind.eq_1 ∧ type_of% @Go.AM.AV.refKind.eq_2))) ∧ ((type_of% @Go.AM.AV.refKind.eq_3 ∧ (type_of% @Go.AM.AV.refKind.eq_4 ∧ type_of% @Go.AM.AV.refKind.eq_5)) ∧ ((type_of% @Go.AM.AV.refKind.eq_6 ∧ type_of% @Go.AM.AV.refKind.eq_7) ∧ (type_of% @Go.AM.AV.refKind.eq_8 ∧ type_of% @List.getD_cons_zero.{0})))))) ∧ (((((type_of% @List.getD_cons_succ.{0} ∧ (type_of% @List.set_cons_zero.{0} ∧ type_of% @List.set_cons_succ.{0})) ∧ (type_of% @List.getElem?_cons_zero.{0} ∧ (type_of% @List.getElem?_cons_succ.{0} ∧ type_of% @List.length_cons.{0}))) ∧ ((type_of% @List.length_nil.{0} ∧ (type_of% @List.replicate_succ.{0} ∧ type_of% @List.replicate_zero.{0})) ∧ ((type_of% @List.cons_append.{0} ∧ type_of% @List.nil_append.{0}) ∧ (type_of% @List.append_nil.{0} ∧ type_of% @List.map_cons.{0, 0})))) ∧ (((type_of% @List.map_nil.{0, 0} ∧ (type_of% @List.take_succ_cons.{0} ∧ type_of% @List.take_zero.{0})) ∧ ((type_of% @List.drop_succ_cons.{0} ∧ type_of% @List.drop_zero.{0}) ∧ (type_of% @List.all_cons.{0} ∧ type_of% @List.all_nil.{0}))) ∧ ((type_of% @Option.map_some.{0, 0} ∧ (type_of% @Option.map_none.{0, 0} ∧ type_of% @Option.bind_some.{0, 0})) ∧ ((type_of% @Nat.zero_add ∧ type_of% @Nat.add_zero) ∧ (type_of% @Nat.zero_mul ∧ type_of% @Go.AM.cast_lit))))) ∧ ((((type_of% @Go.AM.gd_t ∧ (type_of% @Go.AM.gd_f ∧ type_of% @gt_iff_lt.{0})) ∧ ((type_of% @ge_iff_le.{0} ∧ type_of% @or_self) ∧ (type_of% @or_false ∧ type_of% @false_or))) ∧ ((type_of% @true_implies ∧ (type_of% @false_implies ∧ type_of% @and_true)) ∧ ((type_of% @true_and ∧ type_of% @Bool.false_eq_true) ∧ (type_of% @Bool.true_eq_false ∧ type_of% @not_false_eq_true)))) ∧ (((type_of% @not_true_eq_false ∧ (type_of% @beq_self_eq_true.{0} ∧ type_of% @beq_iff_eq.{0})) ∧ ((type_of% @Bool.and_true ∧ type_of% @Bool.true_and) ∧ (type_of% @Bool.and_self ∧ type_of% @Bool.not_true))) ∧ ((type_of% @Bool.not_false ∧ (type_of% @Bool.or_false ∧ type_of% @Bool.false_or)) ∧ ((type_of% @Bool.or_true ∧ type_of% @Bool.true_or) ∧ (type_of% @decide_true ∧ type_of% @decide_false))))))) :=
  ⟨⟨⟨⟨⟨⟨@Go.AM.putA.eq_1, ⟨@Go.AM.putA.eq_2, @Go.AM.opL.eq_1⟩⟩, ⟨@Go.AM.opL.eq_2, ⟨@Go.AM.opL.eq_3, @Go.AM.opL.eq_4⟩⟩⟩, ⟨⟨@Go.AM.seL.eq_1, ⟨@Go.AM.tkL.eq_1, @Go.AM.tkL.eq_2⟩⟩, ⟨⟨@Go.AM.tkL.eq_3, @Go.AM.tkAllL.eq_1⟩, ⟨@Go.AM.tkAllL.eq_2, @Go.AM.sharedL.eq_1⟩⟩⟩⟩, ⟨⟨⟨@Go.AM.sharedL.eq_2, ⟨@Go.AM.settleL.eq_1, @Go.AM.settleL.eq_2⟩⟩, ⟨⟨@Go.AM.guardL.eq_1, @Go.AM.guardL.eq_2⟩, ⟨@Go.AM.AV.look.eq_1, @Go.AM.AV.look.eq_2⟩⟩⟩, ⟨⟨@Go.AM.AV.look.eq_3, ⟨@Go.AM.AV.sh.eq_1, @Go.AM.AV.sh.eq_2⟩⟩, ⟨⟨@Go.AM.AV.sh.eq_3, @Go.AM.AV.left.eq_1⟩, ⟨@Go.AM.AV.left.eq_2, @Go.AM.AV.left.eq_3⟩⟩⟩⟩⟩, ⟨⟨⟨⟨@Go.AM.AV.calm.eq_1, ⟨@Go.AM.AV.calm.eq_2, @Go.AM.AV.cells.eq_1⟩⟩, ⟨@Go.AM.AV.cells.eq_2, ⟨@Go.AM.AV.fit.eq_1, @Go.AM.AV.fit.eq_2⟩⟩⟩, ⟨⟨@Go.AM.AV.fit.eq_3, ⟨@Go.AM.AV.isSlice.eq_1, @Go.AM.AV.isSlice.eq_2⟩⟩, ⟨⟨@Go.AM.AV.isSlice.eq_3, @Go.AM.AV.isSlice.eq_4⟩, ⟨@Go.AM.AV.isStr.eq_1, @Go.AM.AV.isStr.eq_2⟩⟩⟩⟩, ⟨⟨⟨@Go.AM.AV.nilKind.eq_1, ⟨@Go.AM.AV.nilKind.eq_2, @Go.AM.AV.nilKind.eq_3⟩⟩, ⟨⟨@Go.AM.AV.nilKind.eq_4, @Go.AM.AV.nilKind.eq_5⟩, ⟨@Go.AM.AV.refKind.eq_1, @Go.AM.AV.refKind.eq_2⟩⟩⟩, ⟨⟨@Go.AM.AV.refKind.eq_3, ⟨@Go.AM.AV.refKind.eq_4, @Go.AM.AV.refKind.eq_5⟩⟩, ⟨⟨@Go.AM.AV.refKind.eq_6, @Go.AM.AV.refKind.eq_7⟩, ⟨@Go.AM.AV.refKind.eq_8, @List.getD_cons_zero.{0}⟩⟩⟩⟩⟩⟩, ⟨⟨⟨⟨⟨@List.getD_cons_succ.{0}, ⟨@List.set_cons_zero.{0}, @List.set_cons_succ.{0}⟩⟩, ⟨@List.getElem?_cons_zero.{0}, ⟨@List.getElem?_cons_succ.{0}, @List.length_cons.{0}⟩⟩⟩, ⟨⟨@List.length_nil.{0}, ⟨@List.replicate_succ.{0}, @List.replicate_zero.{0}⟩⟩, ⟨⟨@List.cons_append.{0}, @List.nil_append.{0}⟩, ⟨@List.append_nil.{0}, @List.map_cons.{0, 0}⟩⟩⟩⟩, ⟨⟨⟨@List.map_nil.{0, 0}, ⟨@List.take_succ_cons.{0}, @List.take_zero.{0}⟩⟩, ⟨⟨@List.drop_succ_cons.{0}, @List.drop_zero.{0}⟩, ⟨@List.all_cons.{0}, @List.all_nil.{0}⟩⟩⟩, ⟨⟨@Option.map_some.{0, 0}, ⟨@Option.map_none.{0, 0}, @Option.bind_some.{0, 0}⟩⟩, ⟨⟨@Nat.zero_add, @Nat.add_zero⟩, ⟨@Nat.zero_mul, @Go.AM.cast_lit⟩⟩⟩⟩⟩, ⟨⟨⟨⟨@Go.AM.gd_t, ⟨@Go.AM.gd_f, @gt_iff_lt.{0}⟩⟩, ⟨⟨@ge_iff_le.{0}, @or_self⟩, ⟨@or_false, @false_or⟩⟩⟩, ⟨⟨@true_implies, ⟨@false_implies, @and_true⟩⟩, ⟨⟨@true_and, @Bool.false_eq_true⟩, ⟨@Bool.true_eq_false, @not_false_eq_true⟩⟩⟩⟩, ⟨⟨⟨@not_true_eq_false, ⟨@beq_self_eq_true.{0}, @beq_iff_eq.{0}⟩⟩, ⟨⟨@Bool.and_true, @Bool.true_and⟩, ⟨@Bool.and_self, @Bool.not_true⟩⟩⟩, ⟨⟨@Bool.not_false, ⟨@Bool.or_false, @Bool.false_or⟩⟩, ⟨⟨@Bool.or_true, @Bool.true_or⟩, ⟨@decide_true, @decide_false⟩⟩⟩⟩⟩⟩⟩
theorem OPK_ :
  ((((((type_of% @Go.AM.binL.eq_1 ∧ type_of% @Go.AM.binL.eq_2) ∧ (type_of% @Go.AM.binL.eq_3 ∧ (type_of% @Go.AM.binL.eq_4 ∧ type_of% @Go.AM.binL.eq_5))) ∧ ((type_of% @Go.AM.binL.eq_6 ∧ type_of% @Go.AM.binL.eq_7) ∧ (type_of% @Go.AM.binL.eq_8 ∧ (type_of% @Go.AM.binL.eq_9 ∧ type_of% @Go.AM.binL.eq_10)))) ∧ (((type_of% @Go.AM.binL.eq_11 ∧ type_of% @Go.AM.scBin.eq_1) ∧ (type_of% @Go.AM.scBin.eq_2 ∧ (type_of% @Go.AM.scBin.eq_3 ∧ type_of% @Go.AM.scBin.eq_4))) ∧ ((type_of% @Go.AM.scBin.eq_5 ∧ (type_of% @Go.AM.scBin.eq_6 ∧ type_of% @Go.AM.blBin.eq_1)) ∧ (type_of% @Go.AM.blBin.eq_2 ∧ (type_of% @Go.AM.blBin.eq_3 ∧ type_of% @Go.AM.intBin.eq_1))))) ∧ ((((type_of% @Go.AM.intBin.eq_2 ∧ type_of% @Go.AM.intBin.eq_3) ∧ (type_of% @Go.AM.intBin.eq_4 ∧ (type_of% @Go.AM.intBin.eq_5 ∧ type_of% @Go.AM.intBin.eq_6))) ∧ ((type_of% @Go.AM.intBin.eq_7 ∧ (type_of% @Go.AM.intBin.eq_8 ∧ type_of% @Go.AM.intBin.eq_9)) ∧ (type_of% @Go.AM.intBin.eq_10 ∧ (type_of% @Go.AM.intBin.eq_11 ∧ type_of% @Go.AM.intBin.eq_12)))) ∧ (((type_of% @Go.AM.intBin.eq_13 ∧ type_of% @Go.AM.intBin.eq_14) ∧ (type_of% @Go.AM.intBin.eq_15 ∧ (type_of% @Go.AM.intBin.eq_16 ∧ type_of% @Go.AM.intShift.eq_1))) ∧ ((type_of% @Go.AM.intShift.eq_2 ∧ (type_of% @Go.AM.intShift.eq_3 ∧ type_of% @Go.AM.unL.eq_1)) ∧ (type_of% @Go.AM.unL.eq_2 ∧ (type_of% @Go.AM.unL.eq_3 ∧ type_of% @Go.AM.unL.eq_4)))))) ∧ (((((type_of% @Go.AM.load1L.eq_1 ∧ type_of% @Go.AM.load1L.eq_2) ∧ (type_of% @Go.AM.load1L.eq_3 ∧ (type_of% @Go.AM.load1L.eq_4 ∧ type_of% @Go.AM.readCells.eq_1))) ∧ ((type_of% @Go.AM.readCells.eq_2 ∧ (type_of% @Go.AM.readCells.eq_3 ∧ type_of% @Go.AM.splice.eq_1)) ∧ (type_of% @Go.AM.splice.eq_2 ∧ (type_of% @Go.AM.mayHold.eq_1 ∧ type_of% @Go.AM.mayHold.eq_2)))) ∧ (((type_of% @Go.AM.boxOf_stk ∧ type_of% @Go.AM.boxOf_heap) ∧ (type_of% @Go.AM.setBox_stk ∧ (type_of% @Go.AM.setBox_heap ∧ type_of% @Go.AM.newBox_stk))) ∧ ((type_of% @Go.AM.newBox_heap ∧ (type_of% @Go.AM.app_get0 ∧ type_of% @Go.AM.app_get)) ∧ (type_of% @Go.AM.app_set0 ∧ (type_of% @Go.AM.app_set ∧ type_of% @Go.AM.app_take))))) ∧ ((((type_of% @Go.AM.app_one ∧ type_of% @List.length_append.{0}) ∧ (type_of% @Go.AM.shift.eq_1 ∧ (type_of% @Go.AM.shift.eq_2 ∧ type_of% @Go.AM.shift.eq_3))) ∧ ((type_of% @Go.AM.partL.eq_1 ∧ (type_of% @Go.AM.partL.eq_2 ∧ type_of% @Go.AM.capL.eq_1)) ∧ (type_of% @Go.AM.capL.eq_2 ∧ (type_of% @Go.AM.capL.eq_3 ∧ type_of% @Nat.add_assoc)))) ∧ (((type_of% @Go.AM.AV.under.eq_1 ∧ type_of% @Go.AM.AV.under.eq_2) ∧ (type_of% @Go.AM.AV.under.eq_3 ∧ (type_of% @Go.AM.AV.under.eq_4 ∧ type_of% @Go.AM.AV.under.eq_5))) ∧ ((type_of% @Go.AM.AV.under.eq_6 ∧ (type_of% @Go.AM.AV.under.go.eq_1 ∧ type_of% @Go.AM.AV.under.go.eq_2)) ∧ (type_of% @Go.AM.finL.eq_1 ∧ (type_of% @Go.AM.finL.eq_2 ∧ type_of% @Go.AM.finL.eq_3))))))) :=
  ⟨⟨⟨⟨⟨⟨@Go.AM.binL.eq_1, @Go.AM.binL.eq_2⟩, ⟨@Go.AM.binL.eq_3, ⟨@Go.AM.binL.eq_4, @Go.AM.binL.eq_5⟩⟩⟩, ⟨⟨@Go.AM.binL.eq_6, @Go.AM.binL.eq_7⟩, ⟨@Go.AM.binL.eq_8, ⟨@Go.AM.binL.eq_9, @Go.AM.binL.eq_10⟩⟩⟩⟩, ⟨⟨⟨@Go.AM.binL.eq_11, @Go.AM.scBin.eq_1⟩, ⟨@Go.AM.scBin.eq_2, ⟨@Go.AM.scBin.eq_3, @Go.AM.scBin.eq_4⟩⟩⟩, ⟨⟨@Go.AM.scBin.eq_5, ⟨@Go.AM.scBin.eq_6, @Go.AM.blBin.eq_1⟩⟩, ⟨@Go.AM.blBin.eq_2, ⟨@Go.AM.blBin.eq_3, @Go.AM.intBin.eq_1⟩⟩⟩⟩⟩, ⟨⟨⟨⟨@Go.AM.intBin.eq_2, @Go.AM.intBin.eq_3⟩, ⟨@Go.AM.intBin.eq_4, ⟨@Go.AM.intBin.eq_5, @Go.AM.intBin.eq_6⟩⟩⟩, ⟨⟨@Go.AM.intBin.eq_7, ⟨@Go.AM.intBin.eq_8, @Go.AM.intBin.eq_9⟩⟩, ⟨@Go.AM.intBin.eq_10, ⟨@Go.AM.intBin.eq_11, @Go.AM.intBin.eq_12⟩⟩⟩⟩, ⟨⟨⟨@Go.AM.intBin.eq_13, @Go.AM.intBin.eq_14⟩, ⟨@Go.AM.intBin.eq_15, ⟨@Go.AM.intBin.eq_16, @Go.AM.intShift.eq_1⟩⟩⟩, ⟨⟨@Go.AM.intShift.eq_2, ⟨@Go.AM.intShift.eq_3, @Go.AM.unL.eq_1⟩⟩, ⟨@Go.AM.unL.eq_2, ⟨@Go.AM.unL.eq_3, @Go.AM.unL.eq_4⟩⟩⟩⟩⟩⟩, ⟨⟨⟨⟨⟨@Go.AM.load1L.eq_1, @Go.AM.load1L.eq_2⟩, ⟨@Go.AM.load1L.eq_3, ⟨@Go.AM.load1L.eq_4, @Go.AM.readCells.eq_1⟩⟩⟩, ⟨⟨@Go.AM.readCells.eq_2, ⟨@Go.AM.readCells.eq_3, @Go.AM.splice.eq_1⟩⟩, ⟨@Go.AM.splice.eq_2, ⟨@Go.AM.mayHold.eq_1, @Go.AM.mayHold.eq_2⟩⟩⟩⟩, ⟨⟨⟨@Go.AM.boxOf_stk, @Go.AM.boxOf_heap⟩, ⟨@Go.AM.setBox_stk, ⟨@Go.AM.setBox_heap, @Go.AM.newBox_stk⟩⟩⟩, ⟨⟨@Go.AM.newBox_heap, ⟨@Go.AM.app_get0, @Go.AM.app_get⟩⟩, ⟨@Go.AM.app_set0, ⟨@Go.AM.app_set, @Go.AM.app_take⟩⟩⟩⟩⟩, ⟨⟨⟨⟨@Go.AM.app_one, @List.length_append.{0}⟩, ⟨@Go.AM.shift.eq_1, ⟨@Go.AM.shift.eq_2, @Go.AM.shift.eq_3⟩⟩⟩, ⟨⟨@Go.AM.partL.eq_1, ⟨@Go.AM.partL.eq_2, @Go.AM.capL.eq_1⟩⟩, ⟨@Go.AM.capL.eq_2, ⟨@Go.AM.capL.eq_3, @Nat.add_assoc⟩⟩⟩⟩, ⟨⟨⟨@Go.AM.AV.under.eq_1, @Go.AM.AV.under.eq_2⟩, ⟨@Go.AM.AV.under.eq_3, ⟨@Go.AM.AV.under.eq_4, @Go.AM.AV.under.eq_5⟩⟩⟩, ⟨⟨@Go.AM.AV.under.eq_6, ⟨@Go.AM.AV.under.go.eq_1, @Go.AM.AV.under.go.eq_2⟩⟩, ⟨@Go.AM.finL.eq_1, ⟨@Go.AM.finL.eq_2, @Go.AM.finL.eq_3⟩⟩⟩⟩⟩⟩⟩
theorem KEY_ :
  ((((((type_of% @Go.AM.bslL.eq_1 ∧ type_of% @Go.AM.fillE.eq_1) ∧ (type_of% @Go.AM.fillE.eq_2 ∧ (type_of% @List.isEmpty_nil.{0} ∧ type_of% @List.isEmpty_cons.{0}))) ∧ ((type_of% @Go.AM.under_s ∧ type_of% @Go.AM.cells_s) ∧ (type_of% @Go.AM.fit_s ∧ (type_of% @Go.AM.under_list ∧ type_of% @Go.AM.cells_list)))) ∧ (((type_of% @Go.AM.fit_list ∧ type_of% @Go.AM.storeS_stk) ∧ (type_of% @Go.AM.storeS_stk0 ∧ (type_of% @Go.AM.storeQ_stk ∧ type_of% @Go.AM.storeQ_stk0))) ∧ ((type_of% @Go.AM.cellsOf_some ∧ (type_of% @Go.AM.cells_u8 ∧ type_of% @Go.AM.fit_u8)) ∧ (type_of% @Go.AM.kA_cells ∧ (type_of% @Go.AM.kA_under ∧ type_of% @Go.AM.kA_low))))) ∧ ((((type_of% @Go.AM.kA_calm ∧ type_of% @Go.AM.under_u8) ∧ (type_of% @Go.AM.look_u8 ∧ (type_of% @Go.AM.elems_list ∧ type_of% @Go.AM.storeL_stk))) ∧ ((type_of% @Go.AM.storeL_stk0 ∧ (type_of% @Go.AM.readA_rop ∧ type_of% @Go.AM.readA_stk)) ∧ (type_of% @Go.AM.readA_stk0 ∧ (type_of% @Go.AM.zk_eq ∧ type_of% @Go.AM.kc_length)))) ∧ (((type_of% @Go.AM.take_kc ∧ type_of% @Go.AM.drop_kc) ∧ (type_of% @Go.AM.take_kc0 ∧ (type_of% @Go.AM.drop_zero' ∧ type_of% @Go.AM.get_kc16))) ∧ ((type_of% @Go.AM.get_kc17 ∧ (type_of% @Go.AM.take_all ∧ type_of% @Go.AM.look_app)) ∧ (type_of% @Go.AM.map_look_bs ∧ (type_of% @Go.AM.under_app' ∧ type_of% @Go.AM.under_bs)))))) ∧ (((((type_of% @Go.AM.ixl_k ∧ type_of% @Go.AM.lenL_list) ∧ (type_of% @Go.AM.lenL_str ∧ (type_of% @Go.AM.beq_app_k ∧ type_of% @Go.AM.beq_kk))) ∧ ((type_of% @Go.AM.fits_k ∧ (type_of% @Go.AM.fits_kr ∧ type_of% @Go.AM.slice_box)) ∧ (type_of% @Go.AM.fillL_nil ∧ (type_of% @Go.AM.len_map' ∧ type_of% @List.length_append.{0})))) ∧ (((type_of% @List.getD_cons_zero.{0} ∧ type_of% @List.getD_cons_succ.{0}) ∧ (type_of% @Go.AM.cellsEq.eq_1 ∧ (type_of% @List.getD_nil.{0} ∧ type_of% @List.length_set.{0}))) ∧ ((type_of% @Nat.zero_lt_succ ∧ (type_of% @Nat.lt_irrefl ∧ type_of% @List.set_cons_zero.{0})) ∧ (type_of% @List.set_cons_succ.{0} ∧ (type_of% @Nat.le_refl ∧ type_of% @Go.AM.fitsL.eq_1))))) ∧ ((((type_of% @Go.AM.fitsL.eq_2 ∧ type_of% @Go.AM.fitsL.eq_3) ∧ (type_of% @Go.AM.AV.beq.go.eq_1 ∧ (type_of% @Go.AM.AV.beq.go.eq_2 ∧ type_of% @Go.AM.AV.beq.go.eq_3))) ∧ ((type_of% @Go.AM.AV.beq.eq_1 ∧ (type_of% @Go.AM.AV.beq.eq_2 ∧ type_of% @Go.AM.AV.beq.eq_3)) ∧ (type_of% @Go.AM.AV.beq.eq_4 ∧ (type_of% @Go.AM.AV.beq.eq_5 ∧ type_of% @Go.AM.AV.beq.eq_6)))) ∧ (((type_of% @Go.AM.AV.beq.eq_7 ∧ type_of% @Go.AM.AV.beq.eq_8) ∧ (type_of% @Go.AM.AV.beq.eq_9 ∧ (type_of% @Go.AM.AV.beq.eq_10 ∧ type_of% @Go.AM.AV.beq.eq_11))) ∧ ((type_of% @Go.AM.AV.beq.eq_12 ∧ (type_of% @List.length_nil.{0} ∧ type_of% @List.length_cons.{0})) ∧ (type_of% @Go.AM.AV.cells.eq_1 ∧ (type_of% @Go.AM.AV.cells.eq_2 ∧ type_of% @Int.toNat_natCast))))))) :=
  ⟨⟨⟨⟨⟨⟨@Go.AM.bslL.eq_1, @Go.AM.fillE.eq_1⟩, ⟨@Go.AM.fillE.eq_2, ⟨@List.isEmpty_nil.{0}, @List.isEmpty_cons.{0}⟩⟩⟩, ⟨⟨@Go.AM.under_s, @Go.AM.cells_s⟩, ⟨@Go.AM.fit_s, ⟨@Go.AM.under_list, @Go.AM.cells_list⟩⟩⟩⟩, ⟨⟨⟨@Go.AM.fit_list, @Go.AM.storeS_stk⟩, ⟨@Go.AM.storeS_stk0, ⟨@Go.AM.storeQ_stk, @Go.AM.storeQ_stk0⟩⟩⟩, ⟨⟨@Go.AM.cellsOf_some, ⟨@Go.AM.cells_u8, @Go.AM.fit_u8⟩⟩, ⟨@Go.AM.kA_cells, ⟨@Go.AM.kA_under, @Go.AM.kA_low⟩⟩⟩⟩⟩, ⟨⟨⟨⟨@Go.AM.kA_calm, @Go.AM.under_u8⟩, ⟨@Go.AM.look_u8, ⟨@Go.AM.elems_list, @Go.AM.storeL_stk⟩⟩⟩, ⟨⟨@Go.AM.storeL_stk0, ⟨@Go.AM.readA_rop, @Go.AM.readA_stk⟩⟩, ⟨@Go.AM.readA_stk0, ⟨@Go.AM.zk_eq, @Go.AM.kc_length⟩⟩⟩⟩, ⟨⟨⟨@Go.AM.take_kc, @Go.AM.drop_kc⟩, ⟨@Go.AM.take_kc0, ⟨@Go.AM.drop_zero', @Go.AM.get_kc16⟩⟩⟩, ⟨⟨@Go.AM.get_kc17, ⟨@Go.AM.take_all, @Go.AM.look_app⟩⟩, ⟨@Go.AM.map_look_bs, ⟨@Go.AM.under_app', @Go.AM.under_bs⟩⟩⟩⟩⟩⟩, ⟨⟨⟨⟨⟨@Go.AM.ixl_k, @Go.AM.lenL_list⟩, ⟨@Go.AM.lenL_str, ⟨@Go.AM.beq_app_k, @Go.AM.beq_kk⟩⟩⟩, ⟨⟨@Go.AM.fits_k, ⟨@Go.AM.fits_kr, @Go.AM.slice_box⟩⟩, ⟨@Go.AM.fillL_nil, ⟨@Go.AM.len_map', @List.length_append.{0}⟩⟩⟩⟩, ⟨⟨⟨@List.getD_cons_zero.{0}, @List.getD_cons_succ.{0}⟩, ⟨@Go.AM.cellsEq.eq_1, ⟨@List.getD_nil.{0}, @List.length_set.{0}⟩⟩⟩, ⟨⟨@Nat.zero_lt_succ, ⟨@Nat.lt_irrefl, @List.set_cons_zero.{0}⟩⟩, ⟨@List.set_cons_succ.{0}, ⟨@Nat.le_refl, @Go.AM.fitsL.eq_1⟩⟩⟩⟩⟩, ⟨⟨⟨⟨@Go.AM.fitsL.eq_2, @Go.AM.fitsL.eq_3⟩, ⟨@Go.AM.AV.beq.go.eq_1, ⟨@Go.AM.AV.beq.go.eq_2, @Go.AM.AV.beq.go.eq_3⟩⟩⟩, ⟨⟨@Go.AM.AV.beq.eq_1, ⟨@Go.AM.AV.beq.eq_2, @Go.AM.AV.beq.eq_3⟩⟩, ⟨@Go.AM.AV.beq.eq_4, ⟨@Go.AM.AV.beq.eq_5, @Go.AM.AV.beq.eq_6⟩⟩⟩⟩, ⟨⟨⟨@Go.AM.AV.beq.eq_7, @Go.AM.AV.beq.eq_8⟩, ⟨@Go.AM.AV.beq.eq_9, ⟨@Go.AM.AV.beq.eq_10, @Go.AM.AV.beq.eq_11⟩⟩⟩, ⟨⟨@Go.AM.AV.beq.eq_12, ⟨@List.length_nil.{0}, @List.length_cons.{0}⟩⟩, ⟨@Go.AM.AV.cells.eq_1, ⟨@Go.AM.AV.cells.eq_2, @Int.toNat_natCast⟩⟩⟩⟩⟩⟩⟩
theorem WR_ :
  (((type_of% @Go.AM.wc_length ∧ (type_of% @Go.AM.wc_under ∧ type_of% @Go.AM.wA_low)) ∧ (type_of% @Go.AM.look_wc ∧ (type_of% @Go.AM.beq_wc ∧ type_of% @Go.AM.fits_wc))) ∧ ((type_of% @Go.AM.ixl_w ∧ (type_of% @Go.AM.take_wc ∧ type_of% @Go.AM.take_wk)) ∧ (type_of% @Go.AM.drop_wc ∧ (type_of% @Go.AM.shift_rop ∧ type_of% @Go.AM.load1_rop)))) :=
  ⟨⟨⟨@Go.AM.wc_length, ⟨@Go.AM.wc_under, @Go.AM.wA_low⟩⟩, ⟨@Go.AM.look_wc, ⟨@Go.AM.beq_wc, @Go.AM.fits_wc⟩⟩⟩, ⟨⟨@Go.AM.ixl_w, ⟨@Go.AM.take_wc, @Go.AM.take_wk⟩⟩, ⟨@Go.AM.drop_wc, ⟨@Go.AM.shift_rop, @Go.AM.load1_rop⟩⟩⟩⟩
theorem CHK_ :
  (((type_of% @Go.AM.mvK_cons ∧ type_of% @Go.AM.okAll_nil) ∧ (type_of% @Go.AM.okAll_cons ∧ (type_of% @Go.AM.leftC_nil ∧ type_of% @Go.AM.leftC_cons))) ∧ ((type_of% @Go.AM.okC_true ∧ type_of% @Go.AM.okC_false) ∧ (type_of% @Go.AM.sameV_some ∧ (type_of% @List.contains_cons.{0} ∧ type_of% @List.contains_nil.{0})))) :=
  ⟨⟨⟨@Go.AM.mvK_cons, @Go.AM.okAll_nil⟩, ⟨@Go.AM.okAll_cons, ⟨@Go.AM.leftC_nil, @Go.AM.leftC_cons⟩⟩⟩, ⟨⟨@Go.AM.okC_true, @Go.AM.okC_false⟩, ⟨@Go.AM.sameV_some, ⟨@List.contains_cons.{0}, @List.contains_nil.{0}⟩⟩⟩⟩
end Go.AM
