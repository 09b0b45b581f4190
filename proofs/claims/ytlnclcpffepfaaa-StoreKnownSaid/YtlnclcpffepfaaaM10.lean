import Derived.Test.YtlnclcpffepfaaaM9
import Derived.Sort.AssemblyPlain
set_option linter.unusedSimpArgs false
set_option linter.unusedVariables false
namespace Go.AM
open Go
abbrev zs (d:Nat) (o:LOp):LStep:=⟨some d,none,o⟩
abbrev zv (d n : Nat) : LStep := zs d (.mv false (.t n))
abbrev zt (d g:Nat) (o:LOp):LStep:=⟨some d,some (g,true),o⟩
abbrev zf (d g:Nat) (o:LOp):LStep:=⟨some d,some (g,false),o⟩
abbrev zn (o:LOp):LStep:=⟨none,none,o⟩
abbrev zi (n:Int):Opd := .c (.int .i64 n)
abbrev zT:Opd := .c (.bool true)
abbrev zF:Opd := .c (.bool false)
theorem zc {a b:Prop} (h:a) (h2:b):a∧b:=⟨h,h2⟩
def zm:Bool→List Nat→List Bool
  | _,[]=>[]
  | b,n :: l=>List.replicate n b ++ zm (!b) l
inductive Item where
  | c (x:LCode)
  | blk (id:Nat)
  | lp (mask:List Bool) (b:LCode) (n0:Nat)
def contK (C:CallW) (P:Program) (rd:Bool):List Item→KC→KC
  | [],K=>K
  | .c x :: is,K=>roundK (fun fr σ=>execL C P rd x fr σ (contK C P rd is K)) (contK C P rd is K)
  | .blk id :: is,K=>blockK id (contK C P rd is K)
  | .lp mask b n0 :: is,K=>roundK (fun fr σ=>loopW (execL C P rd b) mask n0 fr σ (contK C P rd is K)) (contK C P rd is K)
section
variable {C:CallW} {P:Program} {rd:Bool}
def runC (C:CallW) (P:Program) (rd:Bool) (x:LCode) (is:List Item) (fr:Fr) (σ:St) (K:KC):Prop:=execL C P rd x fr σ (contK C P rd is K)
def nxt (C:CallW) (P:Program) (rd:Bool) (is:List Item) (fr:Fr) (σ:St) (K:KC):Prop:=contK C P rd is K .normal fr σ
def ext (C:CallW) (P:Program) (rd:Bool) (id:Nat) (is:List Item) (fr:Fr) (σ:St) (K:KC):Prop:=contK C P rd is K (.exit id) fr σ
def rtn (C:CallW) (P:Program) (rd:Bool) (is:List Item) (fr:Fr) (σ:St) (K:KC):Prop:=contK C P rd is K .ret fr σ
def runS (C:CallW) (P:Program) (rd:Bool) (l:List LStep) (is:List Item) (fr:Fr) (σ:St) (K:KC):Prop:=seqL C l fr σ (contK C P rd is K .normal)
def runT (C:CallW) (P:Program) (rd:Bool) (t:LT) (chk:List LChk) (is:List Item) (fr:Fr) (σ:St) (K:KC):Prop:=planL C t fr σ chk (contK C P rd is K .normal)
def runLp (C:CallW) (P:Program) (rd:Bool) (mask:List Bool) (b:LCode) (n0:Nat) (is:List Item) (fr:Fr) (σ:St) (K:KC):Prop:=loopW (execL C P rd b) mask n0 fr σ (contK C P rd is K)
def cnd (C:CallW) (P:Program) (rd:Bool) (v:AV) (a b:LCode) (is:List Item) (fr:Fr) (σ:St) (K:KC):Prop :=
  match v with
  | .s (.bool x)=>(x=true→runC C P rd a is fr σ K)∧(x=false→runC C P rd b is fr σ K)
  | _=>False
theorem runC_skip {is fr σ K}:runC C P rd .skip is fr σ K=nxt C P rd is fr σ K:=(rfl)
theorem runC_sq {l is fr σ K}:runC C P rd (.sq l) is fr σ K=runS C P rd l is fr σ K:=(rfl)
theorem runC_tree {t is fr σ K}:runC C P rd (.tree t) is fr σ K=runT C P rd t [] is fr σ K:=(rfl)
theorem runC_seq {a b is fr σ K}:runC C P rd (.seq a b) is fr σ K=runC C P rd a (.c b :: is) fr σ K:=(rfl)
theorem runC_cond {c a b is fr σ K}:runC C P rd (.cond c a b) is fr σ K=cnd C P rd (opL fr c) a b is fr σ K:=by
  show (match opL fr c with | .s (.bool x)=>_ | _=>False)=_
  rfl
theorem runC_block {id b is fr σ K}:runC C P rd (.block id b) is fr σ K=runC C P rd b (.blk id :: is) fr σ K:=(rfl)
theorem runC_loop {m b is fr S H K}:runC C P rd (.loop m b) is fr ⟨S,H⟩ K=runLp C P rd m b S.length is fr ⟨S,H⟩ K:=(rfl)
theorem runC_exit {id is fr σ K}:runC C P rd (.exit id) is fr σ K=ext C P rd id is fr σ K:=(rfl)
theorem runC_ret {is fr σ K}:runC C P rd .ret is fr σ K=rtn C P rd is fr σ K:=(rfl)
theorem cnd_true {a b is fr σ K}:cnd C P rd (.s (.bool true)) a b is fr σ K=runC C P rd a is fr σ K:=by simp [cnd]
theorem cnd_false {a b is fr σ K}:cnd C P rd (.s (.bool false)) a b is fr σ K=runC C P rd b is fr σ K:=by simp [cnd]
theorem nxt_nil {fr σ K}:nxt C P rd [] fr σ K=K .normal fr σ:=(rfl)
theorem nxt_c {x is fr σ K}:nxt C P rd (.c x :: is) fr σ K=runC C P rd x is fr σ K:=(rfl)
theorem nxt_blk {id is fr σ K}:nxt C P rd (.blk id :: is) fr σ K=nxt C P rd is fr σ K:=(rfl)
theorem nxt_lp {m b n0 is fr σ K}:nxt C P rd (.lp m b n0 :: is) fr σ K=runLp C P rd m b n0 is fr σ K:=(rfl)
theorem ext_nil {id fr σ K}:ext C P rd id [] fr σ K=K (.exit id) fr σ:=(rfl)
theorem ext_c {id x is fr σ K}:ext C P rd id (.c x :: is) fr σ K=ext C P rd id is fr σ K:=(rfl)
theorem ext_blk {id id' is fr σ K}:ext C P rd id (.blk id' :: is) fr σ K=if id=id' then nxt C P rd is fr σ K else ext C P rd id is fr σ K:=(rfl)
theorem ext_lp {id m b n0 is fr σ K}:ext C P rd id (.lp m b n0 :: is) fr σ K=ext C P rd id is fr σ K:=(rfl)
theorem rtn_nil {fr σ K}:rtn C P rd [] fr σ K=K .ret fr σ:=(rfl)
theorem rtn_c {x is fr σ K}:rtn C P rd (.c x :: is) fr σ K=rtn C P rd is fr σ K:=(rfl)
theorem rtn_blk {id is fr σ K}:rtn C P rd (.blk id :: is) fr σ K=rtn C P rd is fr σ K:=(rfl)
theorem rtn_lp {m b n0 is fr σ K}:rtn C P rd (.lp m b n0 :: is) fr σ K=rtn C P rd is fr σ K:=(rfl)
def thn (C:CallW) (P:Program) (rd:Bool) (d:Option Nat) (l:List LStep) (is:List Item) (K:KC):Option (AV×Fr×St)→Prop
  | some (v,fr,σ)=>runS C P rd l is (putA d v fr) σ K
  | none=>False
def bak (C:CallW) (P:Program) (rd:Bool) (d:Option Nat) (l:List LStep) (is:List Item) (K:KC) (fr:Fr) (v:AV) (σ:St):Prop:=runS C P rd l is (putA d v fr) σ K
def call (C:CallW) (P:Program) (rd:Bool) (d:Option Nat) (l:List LStep) (is:List Item) (K:KC) (σ:St) (g:AV) (r:List AV×Fr):Prop :=
  match g with
  | .fn (.func h) first captured=>C (.fn h) (first ++ r.1 ++ captured) σ (bak C P rd d l is K r.2)
  | .yield h=>C (.yield h) r.1 σ (bak C P rd d l is K r.2)
  | _=>False
def mayb:LOp→Fr→Bool
  | .bin op (.ref 1) x y,fr=>isEq op && maybeNil (seL fr x) (seL fr y)
  | _,_=>false
def mb (C:CallW) (P:Program) (rd:Bool) (d:Option Nat) (l:List LStep) (is:List Item) (K:KC) (fr:Fr) (σ:St) (q:Prop):Bool→Prop
  | true=>∀b,runS C P rd l is (putA d (.bool b) fr) σ K
  | false=>q
def opS (C:CallW) (P:Program) (rd:Bool) (d:Option Nat) (op:LOp) (l:List LStep) (is:List Item) (fr:Fr) (σ:St) (K:KC):Prop :=
  mb C P rd d l is K fr σ (doL C op (settleL fr (settledL op)) σ fun v fr' σ'=>runS C P rd l is (putA d v fr') σ' K) (mayb op fr)
def grd (C:CallW) (P:Program) (rd:Bool) (d:Option Nat) (op:LOp) (l:List LStep) (is:List Item) (fr:Fr) (σ:St) (K:KC):Option Bool→Prop
  | some g=>(g=true→opS C P rd d op l is fr σ K)∧(g=false→runS C P rd l is (putA d (.tup []) fr) σ K)
  | none=>False
theorem runS_nil {is fr σ K}:runS C P rd [] is fr σ K=nxt C P rd is fr σ K:=(rfl)
theorem runS_op {d op l is fr σ K}:runS C P rd (⟨d,none,op⟩ :: l) is fr σ K=opS C P rd d op l is fr σ K:=by
  have e:maybeS ⟨d,none,op⟩ fr=mayb op fr:=by
    unfold maybeS mayb
    split
    · rename_i h; dsimp only at h; subst h; simp [guardL]
    · rename_i h
      split
      · rename_i h'; exact (h _ _ _ rfl).elim
      · rfl
  simp only [runS,seqL,opS,e]
  cases mayb op fr with
  | true=>rfl
  | false=>simp only [stepL,guardL,mb,true_implies,reduceCtorEq,false_implies,and_true,runS]
theorem runS_grd {d j w op l is fr σ K}:runS C P rd (⟨d,some (j,w),op⟩ :: l) is fr σ K=grd C P rd d op l is fr σ K (guardL fr (some (j,w))):=by
  have e:maybeS ⟨d,some (j,w),op⟩ fr=(mayb op fr && (guardL fr (some (j,w))) == some true):=by
    unfold maybeS mayb
    split
    · rename_i h; dsimp only at h; subst h
      cases hg:guardL fr (some (j,w)) with
      | none=>simp
      | some b=>cases b <;> simp
    · rename_i h
      split
      · rename_i h'; exact (h _ _ _ rfl).elim
      · rfl
  simp only [runS,seqL,e]
  cases hg:guardL fr (some (j,w)) with
  | none =>
    rw [show (mayb op fr && (none:Option Bool) == some true)=false by simp]
    simp only [stepL,hg,grd]
  | some b =>
    cases b with
    | false =>
      rw [show (mayb op fr && some false == some true)=false by simp]
      simp only [stepL,hg,grd,reduceCtorEq,false_implies,true_implies,true_and,runS]
    | true =>
      rw [show (mayb op fr && some true == some true)=mayb op fr by simp]
      simp only [grd,reduceCtorEq,false_implies,true_implies,and_true,opS]
      cases mayb op fr with
      | true=>rfl
      | false=>simp only [stepL,hg,mb,true_implies,reduceCtorEq,false_implies,and_true,runS]
theorem grd_true {d op l is fr σ K}:grd C P rd d op l is fr σ K (some true)=opS C P rd d op l is fr σ K:=by simp [grd]
theorem grd_false {d op l is fr σ K}:grd C P rd d op l is fr σ K (some false)=runS C P rd l is (putA d (.tup []) fr) σ K:=by simp [grd]
theorem opS_plain {d op l is fr σ K} (hp:op.plain=true) (hm:mayb op fr=false):opS C P rd d op l is fr σ K=thn C P rd d l is K (evL op (settleL fr (settledL op)) σ):=by
  unfold opS
  rw [doL_plain hp,hm]
  show (match evL op (settleL fr (settledL op)) σ with | some r=>_ | none=>False)=_
  cases evL op (settleL fr (settledL op)) σ <;> rfl
theorem thn_some {d l is K v fr σ}:thn C P rd d l is K (some (v,fr,σ))=runS C P rd l is (putA d v fr) σ K:=(rfl)
theorem opS_call {d g args l is fr σ K}:opS C P rd d (.call g args) l is fr σ K=call C P rd d l is K σ (seL fr g) (tkAllL fr args):=by
  unfold opS call
  rw [show mayb (.call g args) fr=false from rfl]
  simp only [mb]
  unfold doL
  simp only [settledL,settleL]
  cases seL fr g with
  | fn fn a c=>cases fn <;> rfl
  | _=>rfl
theorem call_fn {d l is K σ h a c vs fr}:call C P rd d l is K σ (.fn (.func h) a c) (vs,fr)=C (.fn h) (a ++ vs ++ c) σ (bak C P rd d l is K fr):=(rfl)
theorem call_yield {d l is K σ h vs fr}:call C P rd d l is K σ (.yield h) (vs,fr)=C (.yield h) vs σ (bak C P rd d l is K fr):=(rfl)
theorem bak_eq {d l is K fr v σ}:bak C P rd d l is K fr v σ=runS C P rd l is (putA d v fr) σ K:=(rfl)
theorem e_mv {d tk x l is fr σ K}:opS C P rd d (.mv tk x) l is fr σ K=runS C P rd l is (putA d (tkL tk fr x).1 (tkL tk fr x).2) σ K:=(rfl)
theorem e_pick {d c a b l is fr σ K}:opS C P rd d (.pick c a b) l is fr σ K=thn C P rd d l is K (evL (.pick c a b) fr σ):=opS_plain rfl rfl
theorem e_alloc {d hp z l is fr σ K}:opS C P rd d (.alloc hp z) l is fr σ K=thn C P rd d l is K ((newBox hp z σ).map fun r=>(.ptr r.1 0,fr,r.2)):=opS_plain rfl rfl
theorem e_box {d tk hp x l is fr σ K}:opS C P rd d (.box tk hp x) l is fr σ K=thn C P rd d l is K (evL (.box tk hp x) fr σ):=opS_plain rfl rfl
theorem e_build {d z ps l is fr σ K}:opS C P rd d (.build z ps) l is fr σ K=thn C P rd d l is K (evL (.build z ps) (settleL fr (ps.map (·.2.2))) σ):=opS_plain rfl rfl
theorem e_bsl {d e n ps l is fr σ K}:opS C P rd d (.bsl e n ps) l is fr σ K=thn C P rd d l is K (evL (.bsl e n ps) (settleL fr (ps.map (·.2))) σ):=opS_plain rfl rfl
theorem e_loadA {d n x l is fr σ K}:opS C P rd d (.loadA n x) l is fr σ K=thn C P rd d l is K ((readA σ (seL fr x) n).map fun v=>(v,fr,σ)):=opS_plain rfl rfl
theorem e_load1 {d tk x l is fr σ K}:opS C P rd d (.load1 tk x) l is fr σ K=thn C P rd d l is K ((load1L tk (seL fr x) σ).map fun r=>(r.1,fr,r.2)):=opS_plain rfl rfl
theorem e_store {d n p x l is fr σ K}:opS C P rd d (.store n p x) l is fr σ K=thn C P rd d l is K ((storeL n (seL (tkL true fr x).2 p) (tkL true fr x).1.calm σ).map fun σ=>(.undef,(tkL true fr x).2,σ)):=opS_plain rfl rfl
theorem e_stu {d p x l is fr σ K}:opS C P rd d (.stu p x) l is fr σ K=thn C P rd d l is K ((storeUL (seL (tkL true fr x).2 p) (tkL true fr x).1 σ).map fun σ=>(.undef,(tkL true fr x).2,σ)):=opS_plain rfl rfl
theorem e_nilc {d x l is fr σ K}:opS C P rd d (.nilc x) l is fr σ K=thn C P rd d l is K (evL (.nilc x) fr σ):=opS_plain rfl rfl
theorem e_bin {d op k x y l is fr σ K}:opS C P rd d (.bin op k x y) l is fr σ K=mb C P rd d l is K fr σ (thn C P rd d l is K ((binL op k (seL fr x) (seL fr y)).map fun v=>(v,fr,σ))) (mayb (.bin op k x y) fr):=by
  cases hm:mayb (.bin op k x y) fr with
  | false=>exact opS_plain rfl hm
  | true=>unfold opS; rw [hm]; rfl
theorem mb_t {d l is K fr σ q}:mb C P rd d l is K fr σ q true=∀b,runS C P rd l is (putA d (.bool b) fr) σ K:=(rfl)
theorem mb_f {d l is K fr σ q}:mb C P rd d l is K fr σ q false=q:=(rfl)
theorem mayb_sc {op x y fr}:mayb (.bin op .sc x y) fr=false:=(rfl)
theorem mayb_bl {op x y fr}:mayb (.bin op .bl x y) fr=false:=(rfl)
theorem mayb_leaf {op ls x y fr}:mayb (.bin op (.leaf ls) x y) fr=false:=(rfl)
theorem mayb_r0 {op x y fr}:mayb (.bin op (.ref 0) x y) fr=false:=(rfl)
theorem mayb_r1 {op x y fr}:mayb (.bin op (.ref 1) x y) fr=(isEq op && maybeNil (seL fr x) (seL fr y)):=(rfl)
theorem mayb_r2 {op x y fr}:mayb (.bin op (.ref 2) x y) fr=false:=(rfl)
theorem mayb_r3 {op x y fr}:mayb (.bin op (.ref 3) x y) fr=false:=(rfl)
theorem e_un {d op x l is fr σ K}:opS C P rd d (.un op x) l is fr σ K=thn C P rd d l is K ((unL op (seL fr x)).map fun v=>(v,fr,σ)):=opS_plain rfl rfl
theorem e_conv {d k x l is fr σ K}:opS C P rd d (.conv k x) l is fr σ K=thn C P rd d l is K ((convL k (seL (settleL fr [x]) x) σ).map fun v=>(v,settleL fr [x],σ)):=opS_plain rfl rfl
theorem e_mkfn {d f a b l is fr σ K}:opS C P rd d (.mkfn f a b) l is fr σ K=runS C P rd l is (putA d (.fn (.func f) (a.map (seL fr)) (b.map (seL fr))) fr) σ K:=(rfl)
theorem e_mkmap {d r l is fr σ K}:opS C P rd d (.mkmap r) l is fr σ K=thn C P rd d l is K (evL (.mkmap r) fr σ):=opS_plain rfl rfl
theorem e_mksl {d tk hp e a c l is fr σ K}:opS C P rd d (.mksl tk hp e a c) l is fr σ K=thn C P rd d l is K ((mkslL tk hp e (seL fr a) (seL fr c) σ).map fun r=>(r.1,fr,r.2)):=opS_plain rfl rfl
theorem e_slc {d k x lo hi mx l is fr σ K}:opS C P rd d (.slc k x lo hi mx) l is fr σ K=thn C P rd d l is K ((sliceL k (seL (settleL fr [x]) x) (lo.map (seL (settleL fr [x]))) (hi.map (seL (settleL fr [x]))) (mx.map (seL (settleL fr [x])))).map fun v=>(v,settleL fr [x],σ)):=opS_plain rfl rfl
theorem e_shift {d o x l is fr σ K}:opS C P rd d (.shift o x) l is fr σ K=thn C P rd d l is K ((shift (seL fr x) o).map fun v=>(v,fr,σ)):=opS_plain rfl rfl
theorem e_part {d ag o x l is fr σ K}:opS C P rd d (.part ag o x) l is fr σ K=thn C P rd d l is K (evL (.part ag o x) fr σ):=opS_plain rfl rfl
theorem e_ixa {d k x i l is fr σ K}:opS C P rd d (.ixa k x i) l is fr σ K=thn C P rd d l is K ((indexAddrL k (seL (settleL fr [x]) x) (seL (settleL fr [x]) i)).map fun v=>(v,settleL fr [x],σ)):=opS_plain rfl rfl
theorem e_ixs {d x i l is fr σ K}:opS C P rd d (.ixs x i) l is fr σ K=thn C P rd d l is K (evL (.ixs x i) fr σ):=opS_plain rfl rfl
theorem e_ixv {d n c ag x i l is fr σ K}:opS C P rd d (.ixv n c ag x i) l is fr σ K=thn C P rd d l is K (evL (.ixv n c ag x i) fr σ):=opS_plain rfl rfl
theorem e_look {d kk z ok m k l is fr σ K}:opS C P rd d (.look kk z ok m k) l is fr σ K=thn C P rd d l is K ((lookupL kk z ok (seL fr m) (seL fr k) σ).map fun v=>(v,fr,σ)):=opS_plain rfl rfl
theorem e_upd {d kk m k v l is fr σ K}:opS C P rd d (.upd kk m k v) l is fr σ K=thn C P rd d l is K (evL (.upd kk m k v) (settleL fr [v]) σ):=opS_plain rfl rfl
theorem e_ext {d x i l is fr σ K}:opS C P rd d (.ext x i) l is fr σ K=thn C P rd d l is K (evL (.ext x i) fr σ):=opS_plain rfl rfl
theorem e_len {d k x l is fr σ K}:opS C P rd d (.len k x) l is fr σ K=thn C P rd d l is K ((lenL k (seL (settleL fr [x]) x) σ).map fun (n:Nat)=>(AV.i n,settleL fr [x],σ)):=opS_plain rfl rfl
theorem e_cap {d x l is fr σ K}:opS C P rd d (.cap x) l is fr σ K=thn C P rd d l is K ((capL (seL (settleL fr [x]) x)).map fun (n:Nat)=>(AV.i n,settleL fr [x],σ)):=opS_plain rfl rfl
theorem e_app {d e b s x l is fr σ K}:opS C P rd d (.app e b s x) l is fr σ K=thn C P rd d l is K (evL (.app e b s x) (settleL fr [x]) σ):=opS_plain rfl rfl
theorem e_cpy {d e b s x l is fr σ K}:opS C P rd d (.cpy e b s x) l is fr σ K=thn C P rd d l is K ((copyL e b (seL fr s) (seL fr x) σ).map fun r=>(r.1,fr,r.2)):=opS_plain rfl rfl
theorem e_del {d kk m k l is fr σ K}:opS C P rd d (.del kk m k) l is fr σ K=thn C P rd d l is K ((deleteL kk (seL fr m) (seL fr k) σ).map fun σ=>(.tup [],fr,σ)):=opS_plain rfl rfl
theorem e_clr {d e x l is fr σ K}:opS C P rd d (.clr e x) l is fr σ K=thn C P rd d l is K ((clearL e (seL fr x) σ).map fun σ=>(.tup [],fr,σ)):=opS_plain rfl rfl
theorem e_mn {d x y l is fr σ K}:opS C P rd d (.mn x y) l is fr σ K=thn C P rd d l is K (evL (.mn x y) fr σ):=opS_plain rfl rfl
theorem e_mx {d x y l is fr σ K}:opS C P rd d (.mx x y) l is fr σ K=thn C P rd d l is K (evL (.mx x y) fr σ):=opS_plain rfl rfl
theorem e_thaw {d t l is fr σ K}:opS C P rd d (.thaw t) l is fr σ K=thn C P rd d l is K (AM.thaw fr (.tmp t) σ):=opS_plain rfl rfl
theorem e_frz {d e x l is fr σ K}:opS C P rd d (.frz e x) l is fr σ K=thn C P rd d l is K ((freezeL e (seL fr x) σ).map fun r=>(r.1,fr,r.2)):=opS_plain rfl rfl
def rdV (C:CallW) (P:Program) (rd:Bool) (s:LStep) (i:Nat) (ck:Bool) (rest:LT) (chk:List LChk) (is:List Item) (fr:Fr) (σ:St) (K:KC):Option AV→Prop
  | some v=>runT C P rd rest (if (ck && depL fr s.op)=true then ⟨i,s,fr,v⟩ :: chk else chk) is (putA s.dst v fr) σ K
  | none=>False
def rdG (C:CallW) (P:Program) (rd:Bool) (s:LStep) (i:Nat) (ck:Bool) (rest:LT) (chk:List LChk) (is:List Item) (fr:Fr) (σ:St) (K:KC):Option Bool→Prop
  | some g=>(g=true→rdV C P rd s i ck rest chk is fr σ K (readL s fr σ))∧(g=false→runT C P rd rest chk is (putA s.dst (.tup []) fr) σ K)
  | none=>False
def mvK (C:CallW) (P:Program) (rd:Bool) (drop:List Nat) (chk:List LChk) (rest:LT) (is:List Item) (K:KC) (fr:Fr) (σ:St):Prop :=
  (chk.filter fun c => !drop.contains c.i).all (fun c=>c.ok σ)=true∧runT C P rd rest (chk.filter fun c => !drop.contains c.i) is fr σ K
def opT (C:CallW) (P:Program) (rd:Bool) (d:Option Nat) (op:LOp) (drop:List Nat) (chk:List LChk) (rest:LT) (is:List Item) (K:KC) (fr:Fr) (σ:St):Prop :=
  doL C op (settleL fr (settledL op)) σ fun v fr' σ'=>mvK C P rd drop chk rest is K (putA d v fr') σ'
def mvG (C:CallW) (P:Program) (rd:Bool) (d:Option Nat) (op:LOp) (drop:List Nat) (chk:List LChk) (rest:LT) (is:List Item) (K:KC) (fr:Fr) (σ:St):Option Bool→Prop
  | some g=>(g=true→opT C P rd d op drop chk rest is K fr σ)∧(g=false→mvK C P rd drop chk rest is K (putA d (.tup []) fr) σ)
  | none=>False
def thnT (C:CallW) (P:Program) (rd:Bool) (d:Option Nat) (drop:List Nat) (chk:List LChk) (rest:LT) (is:List Item) (K:KC):Option (AV×Fr×St)→Prop
  | some (v,fr,σ)=>mvK C P rd drop chk rest is K (putA d v fr) σ
  | none=>False
def bakT (C:CallW) (P:Program) (rd:Bool) (d:Option Nat) (drop:List Nat) (chk:List LChk) (rest:LT) (is:List Item) (K:KC) (fr:Fr) (v:AV) (σ:St):Prop:=mvK C P rd drop chk rest is K (putA d v fr) σ
def callT (C:CallW) (P:Program) (rd:Bool) (d:Option Nat) (drop:List Nat) (chk:List LChk) (rest:LT) (is:List Item) (K:KC) (σ:St) (g:AV) (r:List AV×Fr):Prop :=
  match g with
  | .fn (.func h) first captured=>C (.fn h) (first ++ r.1 ++ captured) σ (bakT C P rd d drop chk rest is K r.2)
  | .yield h=>C (.yield h) r.1 σ (bakT C P rd d drop chk rest is K r.2)
  | _=>False
theorem runT_done {chk is fr σ K}:runT C P rd .done chk is fr σ K=nxt C P rd is fr σ K:=(rfl)
theorem runT_stop {chk is fr σ K}:runT C P rd .stop chk is fr σ K=True:=(rfl)
theorem runT_rd {s i ck rest chk is fr σ K}:runT C P rd (.rd s i ck rest) chk is fr σ K=rdG C P rd s i ck rest chk is fr σ K (guardL fr s.guard):=by
  show (match guardL fr s.guard with | some g=>_ | none=>False)=_
  cases guardL fr s.guard with
  | none=>rfl
  | some g =>
    show (_∧_)=(_∧_)
    refine congr (congrArg And ?_) rfl
    cases readL s fr σ <;> rfl
theorem rdG_true {s i ck rest chk is fr σ K}:rdG C P rd s i ck rest chk is fr σ K (some true)=rdV C P rd s i ck rest chk is fr σ K (readL s fr σ):=by simp [rdG]
theorem rdG_false {s i ck rest chk is fr σ K}:rdG C P rd s i ck rest chk is fr σ K (some false)=runT C P rd rest chk is (putA s.dst (.tup []) fr) σ K:=by simp [rdG]
theorem rdV_some {s i ck rest chk is fr σ K v}:rdV C P rd s i ck rest chk is fr σ K (some v)=runT C P rd rest (if (ck && depL fr s.op)=true then ⟨i,s,fr,v⟩ :: chk else chk) is (putA s.dst v fr) σ K:=(rfl)
theorem runT_mv {d g op drop rest alt chk is fr σ K}:runT C P rd (.mv ⟨d,g,op⟩ drop rest alt) chk is fr σ K=(mvG C P rd d op drop chk rest is K fr σ (guardL fr g)∧runT C P rd alt chk is fr σ K):=by
  show (stepL C ⟨d,g,op⟩ fr σ _∧_)=_
  refine congr (congrArg And ?_) rfl
  unfold stepL
  cases guardL fr g <;> rfl
theorem mvG_true {d op drop rest chk is fr σ K}:mvG C P rd d op drop chk rest is K fr σ (some true)=opT C P rd d op drop chk rest is K fr σ:=by simp [mvG]
theorem mvG_false {d op drop rest chk is fr σ K}:mvG C P rd d op drop chk rest is K fr σ (some false)=mvK C P rd drop chk rest is K (putA d (.tup []) fr) σ:=by simp [mvG]
theorem opT_plain {d op drop rest chk is fr σ K} (hp:op.plain=true):opT C P rd d op drop chk rest is K fr σ=thnT C P rd d drop chk rest is K (evL op (settleL fr (settledL op)) σ):=by
  unfold opT
  rw [doL_plain hp]
  cases evL op (settleL fr (settledL op)) σ <;> rfl
theorem t_mv {d tk x drop rest chk is fr σ K}:opT C P rd d (.mv tk x) drop chk rest is K fr σ=thnT C P rd d drop chk rest is K (evL (.mv tk x) (settleL fr (settledL (.mv tk x))) σ):=opT_plain rfl
theorem t_pick {d c a b drop rest chk is fr σ K}:opT C P rd d (.pick c a b) drop chk rest is K fr σ=thnT C P rd d drop chk rest is K (evL (.pick c a b) (settleL fr (settledL (.pick c a b))) σ):=opT_plain rfl
theorem t_alloc {d hp z drop rest chk is fr σ K}:opT C P rd d (.alloc hp z) drop chk rest is K fr σ=thnT C P rd d drop chk rest is K (evL (.alloc hp z) (settleL fr (settledL (.alloc hp z))) σ):=opT_plain rfl
theorem t_box {d tk hp x drop rest chk is fr σ K}:opT C P rd d (.box tk hp x) drop chk rest is K fr σ=thnT C P rd d drop chk rest is K (evL (.box tk hp x) (settleL fr (settledL (.box tk hp x))) σ):=opT_plain rfl
theorem t_build {d z ps drop rest chk is fr σ K}:opT C P rd d (.build z ps) drop chk rest is K fr σ=thnT C P rd d drop chk rest is K (evL (.build z ps) (settleL fr (settledL (.build z ps))) σ):=opT_plain rfl
theorem t_bsl {d e n ps drop rest chk is fr σ K}:opT C P rd d (.bsl e n ps) drop chk rest is K fr σ=thnT C P rd d drop chk rest is K (evL (.bsl e n ps) (settleL fr (settledL (.bsl e n ps))) σ):=opT_plain rfl
theorem t_loadA {d n x drop rest chk is fr σ K}:opT C P rd d (.loadA n x) drop chk rest is K fr σ=thnT C P rd d drop chk rest is K (evL (.loadA n x) (settleL fr (settledL (.loadA n x))) σ):=opT_plain rfl
theorem t_load1 {d tk x drop rest chk is fr σ K}:opT C P rd d (.load1 tk x) drop chk rest is K fr σ=thnT C P rd d drop chk rest is K (evL (.load1 tk x) (settleL fr (settledL (.load1 tk x))) σ):=opT_plain rfl
theorem t_store {d n p x drop rest chk is fr σ K}:opT C P rd d (.store n p x) drop chk rest is K fr σ=thnT C P rd d drop chk rest is K (evL (.store n p x) (settleL fr (settledL (.store n p x))) σ):=opT_plain rfl
theorem t_stu {d p x drop rest chk is fr σ K}:opT C P rd d (.stu p x) drop chk rest is K fr σ=thnT C P rd d drop chk rest is K (evL (.stu p x) (settleL fr (settledL (.stu p x))) σ):=opT_plain rfl
theorem t_nilc {d x drop rest chk is fr σ K}:opT C P rd d (.nilc x) drop chk rest is K fr σ=thnT C P rd d drop chk rest is K (evL (.nilc x) (settleL fr (settledL (.nilc x))) σ):=opT_plain rfl
theorem t_bin {d op k x y drop rest chk is fr σ K}:opT C P rd d (.bin op k x y) drop chk rest is K fr σ=thnT C P rd d drop chk rest is K (evL (.bin op k x y) (settleL fr (settledL (.bin op k x y))) σ):=opT_plain rfl
theorem t_un {d op x drop rest chk is fr σ K}:opT C P rd d (.un op x) drop chk rest is K fr σ=thnT C P rd d drop chk rest is K (evL (.un op x) (settleL fr (settledL (.un op x))) σ):=opT_plain rfl
theorem t_conv {d k x drop rest chk is fr σ K}:opT C P rd d (.conv k x) drop chk rest is K fr σ=thnT C P rd d drop chk rest is K (evL (.conv k x) (settleL fr (settledL (.conv k x))) σ):=opT_plain rfl
theorem t_mkfn {d f a b drop rest chk is fr σ K}:opT C P rd d (.mkfn f a b) drop chk rest is K fr σ=thnT C P rd d drop chk rest is K (evL (.mkfn f a b) (settleL fr (settledL (.mkfn f a b))) σ):=opT_plain rfl
theorem t_mkmap {d r drop rest chk is fr σ K}:opT C P rd d (.mkmap r) drop chk rest is K fr σ=thnT C P rd d drop chk rest is K (evL (.mkmap r) (settleL fr (settledL (.mkmap r))) σ):=opT_plain rfl
theorem t_mksl {d tk hp e a c drop rest chk is fr σ K}:opT C P rd d (.mksl tk hp e a c) drop chk rest is K fr σ=thnT C P rd d drop chk rest is K (evL (.mksl tk hp e a c) (settleL fr (settledL (.mksl tk hp e a c))) σ):=opT_plain rfl
theorem t_slc {d k x lo hi mx drop rest chk is fr σ K}:opT C P rd d (.slc k x lo hi mx) drop chk rest is K fr σ=thnT C P rd d drop chk rest is K (evL (.slc k x lo hi mx) (settleL fr (settledL (.slc k x lo hi mx))) σ):=opT_plain rfl
theorem t_shift {d o x drop rest chk is fr σ K}:opT C P rd d (.shift o x) drop chk rest is K fr σ=thnT C P rd d drop chk rest is K (evL (.shift o x) (settleL fr (settledL (.shift o x))) σ):=opT_plain rfl
theorem t_part {d ag o x drop rest chk is fr σ K}:opT C P rd d (.part ag o x) drop chk rest is K fr σ=thnT C P rd d drop chk rest is K (evL (.part ag o x) (settleL fr (settledL (.part ag o x))) σ):=opT_plain rfl
theorem t_ixa {d k x i drop rest chk is fr σ K}:opT C P rd d (.ixa k x i) drop chk rest is K fr σ=thnT C P rd d drop chk rest is K (evL (.ixa k x i) (settleL fr (settledL (.ixa k x i))) σ):=opT_plain rfl
theorem t_ixs {d x i drop rest chk is fr σ K}:opT C P rd d (.ixs x i) drop chk rest is K fr σ=thnT C P rd d drop chk rest is K (evL (.ixs x i) (settleL fr (settledL (.ixs x i))) σ):=opT_plain rfl
theorem t_ixv {d n c ag x i drop rest chk is fr σ K}:opT C P rd d (.ixv n c ag x i) drop chk rest is K fr σ=thnT C P rd d drop chk rest is K (evL (.ixv n c ag x i) (settleL fr (settledL (.ixv n c ag x i))) σ):=opT_plain rfl
theorem t_look {d kk z ok m k drop rest chk is fr σ K}:opT C P rd d (.look kk z ok m k) drop chk rest is K fr σ=thnT C P rd d drop chk rest is K (evL (.look kk z ok m k) (settleL fr (settledL (.look kk z ok m k))) σ):=opT_plain rfl
theorem t_upd {d kk m k v drop rest chk is fr σ K}:opT C P rd d (.upd kk m k v) drop chk rest is K fr σ=thnT C P rd d drop chk rest is K (evL (.upd kk m k v) (settleL fr (settledL (.upd kk m k v))) σ):=opT_plain rfl
theorem t_ext {d x i drop rest chk is fr σ K}:opT C P rd d (.ext x i) drop chk rest is K fr σ=thnT C P rd d drop chk rest is K (evL (.ext x i) (settleL fr (settledL (.ext x i))) σ):=opT_plain rfl
theorem t_len {d k x drop rest chk is fr σ K}:opT C P rd d (.len k x) drop chk rest is K fr σ=thnT C P rd d drop chk rest is K (evL (.len k x) (settleL fr (settledL (.len k x))) σ):=opT_plain rfl
theorem t_cap {d x drop rest chk is fr σ K}:opT C P rd d (.cap x) drop chk rest is K fr σ=thnT C P rd d drop chk rest is K (evL (.cap x) (settleL fr (settledL (.cap x))) σ):=opT_plain rfl
theorem t_app {d e b s x drop rest chk is fr σ K}:opT C P rd d (.app e b s x) drop chk rest is K fr σ=thnT C P rd d drop chk rest is K (evL (.app e b s x) (settleL fr (settledL (.app e b s x))) σ):=opT_plain rfl
theorem t_cpy {d e b s x drop rest chk is fr σ K}:opT C P rd d (.cpy e b s x) drop chk rest is K fr σ=thnT C P rd d drop chk rest is K (evL (.cpy e b s x) (settleL fr (settledL (.cpy e b s x))) σ):=opT_plain rfl
theorem t_del {d kk m k drop rest chk is fr σ K}:opT C P rd d (.del kk m k) drop chk rest is K fr σ=thnT C P rd d drop chk rest is K (evL (.del kk m k) (settleL fr (settledL (.del kk m k))) σ):=opT_plain rfl
theorem t_clr {d e x drop rest chk is fr σ K}:opT C P rd d (.clr e x) drop chk rest is K fr σ=thnT C P rd d drop chk rest is K (evL (.clr e x) (settleL fr (settledL (.clr e x))) σ):=opT_plain rfl
theorem t_mn {d x y drop rest chk is fr σ K}:opT C P rd d (.mn x y) drop chk rest is K fr σ=thnT C P rd d drop chk rest is K (evL (.mn x y) (settleL fr (settledL (.mn x y))) σ):=opT_plain rfl
theorem t_mx {d x y drop rest chk is fr σ K}:opT C P rd d (.mx x y) drop chk rest is K fr σ=thnT C P rd d drop chk rest is K (evL (.mx x y) (settleL fr (settledL (.mx x y))) σ):=opT_plain rfl
theorem t_thaw {d t drop rest chk is fr σ K}:opT C P rd d (.thaw t) drop chk rest is K fr σ=thnT C P rd d drop chk rest is K (evL (.thaw t) (settleL fr (settledL (.thaw t))) σ):=opT_plain rfl
theorem t_frz {d e x drop rest chk is fr σ K}:opT C P rd d (.frz e x) drop chk rest is K fr σ=thnT C P rd d drop chk rest is K (evL (.frz e x) (settleL fr (settledL (.frz e x))) σ):=opT_plain rfl
theorem thnT_some {d drop rest chk is K v fr σ}:thnT C P rd d drop chk rest is K (some (v,fr,σ))=mvK C P rd drop chk rest is K (putA d v fr) σ:=(rfl)
theorem opT_call {d g args drop rest chk is fr σ K}:opT C P rd d (.call g args) drop chk rest is K fr σ=callT C P rd d drop chk rest is K σ (seL fr g) (tkAllL fr args):=by
  unfold opT callT doL
  simp only [settledL,settleL]
  cases seL fr g with
  | fn fn a c=>cases fn <;> rfl
  | _=>rfl
theorem callT_fn {d drop rest chk is K σ h a c vs fr}:callT C P rd d drop chk rest is K σ (.fn (.func h) a c) (vs,fr)=C (.fn h) (a ++ vs ++ c) σ (bakT C P rd d drop chk rest is K fr):=(rfl)
theorem callT_yield {d drop rest chk is K σ h vs fr}:callT C P rd d drop chk rest is K σ (.yield h) (vs,fr)=C (.yield h) vs σ (bakT C P rd d drop chk rest is K fr):=(rfl)
theorem bakT_eq {d drop rest chk is K fr v σ}:bakT C P rd d drop chk rest is K fr v σ=mvK C P rd drop chk rest is K (putA d v fr) σ:=(rfl)
theorem mvK_nil {drop rest is K fr σ}:mvK C P rd drop [] rest is K fr σ=runT C P rd rest [] is fr σ K:=by simp [mvK]
theorem unfC {x y:LCode} (h:x=y):∀{C:CallW} {P:Program} {rd:Bool} {is:List Item} {fr:Fr} {σ:St} {K:KC},runC C P rd x is fr σ K=runC C P rd y is fr σ K:=by subst h; intros; rfl
def cs (l:List FuncId) (n:Nat):FuncId:=l.getD n 0
def fin (base:Nat) (rs:List LR) (K:AV→St→Prop):KC:=finL base rs K
theorem run_fn {F:LFn} {args:List AV} {S H} {K:AV→St→Prop}:runL C P F args ⟨S,H⟩ K=runC C P false F.code [] (args ++ List.replicate (F.ntmps - args.length) .undef) ⟨S,H⟩ (fin S.length F.res K):=(rfl)
def end1 (base:Nat) (K:AV→St→Prop) (σ:St):Option (List AV)→Prop
  | some [v]=>v.under base=true∧K v { σ with stk:=σ.stk.take base }
  | some vs=>underL base vs=true∧K (.tup (vs.map AV.look)) { σ with stk:=σ.stk.take base }
  | none=>False
theorem fin_ret {base rs K fr σ}:fin base rs K .ret fr σ=end1 base K σ (ressL fr σ rs):=(rfl)
theorem fin_normal {base rs K fr σ}:fin base rs K .normal fr σ=end1 base K σ (ressL fr σ rs):=(rfl)
theorem end1_nil {base K S H}:end1 base K ⟨S,H⟩ (some [])=K (.tup []) ⟨S.take base,H⟩:=by simp [end1,AV.under.go]
theorem end1_one {base K S H v}:end1 base K ⟨S,H⟩ (some [v])=(v.under base=true∧K v ⟨S.take base,H⟩):=(rfl)
theorem end1_two {base K S H v u}:end1 base K ⟨S,H⟩ (some [v,u])=(underL base [v,u]=true∧K (.tup [v.look,u.look]) ⟨S.take base,H⟩):=(rfl)
theorem end1_three {base K S H v u t}:end1 base K ⟨S,H⟩ (some [v,u,t])=(underL base [v,u,t]=true∧K (.tup [v.look,u.look,t.look]) ⟨S.take base,H⟩):=(rfl)
theorem end1_four {base K S H v u t s}:end1 base K ⟨S,H⟩ (some [v,u,t,s])=(underL base [v,u,t,s]=true∧K (.tup [v.look,u.look,t.look,s.look]) ⟨S.take base,H⟩):=(rfl)
def cns (v:AV):Option (List AV)→Option (List AV)
  | some vs=>some (v :: vs)
  | none=>none
theorem ress_nil {fr σ}:ressL fr σ []=some []:=(rfl)
theorem ress_t {fr σ n rs}:ressL fr σ (.t n :: rs)=cns (fr.getD n .undef) (ressL fr σ rs):=by
  simp only [ressL,resL]
  cases ressL fr σ rs <;> rfl
theorem cns_some {v vs}:cns v (some vs)=some (v :: vs):=(rfl)
def cns2 (v:Option AV) (r:Option (List AV)):Option (List AV):=match v with
  | some v=>cns v r
  | none=>none
theorem ress_many {fr σ a n rs}:ressL fr σ (.many a n :: rs)=cns2 (readA σ (fr.getD a .undef) n) (ressL fr σ rs):=by
  simp only [ressL,resL,cns2]
  cases readA σ (fr.getD a .undef) n <;> cases ressL fr σ rs <;> rfl
theorem ress_one {fr σ a rs}:ressL fr σ (.one a :: rs)=cns2 ((load1L false (fr.getD a .undef) σ).map (·.1)) (ressL fr σ rs):=by
  simp only [ressL,resL,cns2]
  cases (load1L false (fr.getD a .undef) σ).map (·.1) <;> cases ressL fr σ rs <;> rfl
theorem cns2_some {v r}:cns2 (some v) r=cns v r:=(rfl)
theorem doL_mono (hC:LeC C C) {op:LOp} {fr σ} {K K':AV→Fr→St→Prop} (hK:∀v fr σ,K v fr σ→K' v fr σ):doL C op fr σ K→doL C op fr σ K':=by
  unfold doL
  split
  · split
    · split
      · exact fun h1=>hK _ _ _ h1
      · exact id
    · exact fun h1=>hK _ _ _ h1
    · exact id
  · split
    · split
      · exact fun h1=>hK _ _ _ h1
      · split
        · exact fun h1=>⟨h1.1,fun k=>hK _ _ _ (h1.2.1 k),fun e he hs=>hK _ _ _ (h1.2.2 e he hs)⟩
        · exact id
    · exact id
  · split
    · split
      · split
        · refine fun h1=>⟨h1.1,?_⟩
          have h2:=h1.2
          split at h2
          · exact hK _ _ _ h2
          · exact h2
        · exact id
      · exact id
    · exact id
  · split
    · exact fun h1=>hC _ _ _ _ _ (fun v s k=>hK _ _ _ k) h1
    · exact fun h1=>hC _ _ _ _ _ (fun v s k=>hK _ _ _ k) h1
    · exact id
  · split
    · exact fun h1=>hK _ _ _ h1
    · exact id
theorem stepL_mono (hC:LeC C C) {s:LStep} {fr σ} {K K':Fr→St→Prop} (hK:∀fr σ,K fr σ→K' fr σ) (h:stepL C s fr σ K):stepL C s fr σ K':=by
  unfold stepL at h ⊢
  split at h
  · exact ⟨fun hg=>doL_mono hC (fun _ _ _ k=>hK _ _ k) (h.1 hg),fun hg=>hK _ _ (h.2 hg)⟩
  · exact h
theorem seqL_mono {hC:LeC C C}:∀(l:List LStep) {fr σ} {K K':Fr→St→Prop},(∀fr σ,K fr σ→K' fr σ)→seqL C l fr σ K→seqL C l fr σ K':=by
  intro l
  induction l with
  | nil=>intro fr σ K K' hK h; exact hK _ _ h
  | cons s l ih =>
    intro fr σ K K' hK h
    simp only [seqL] at h ⊢
    split at h
    · exact fun b=>ih hK (h b)
    · exact stepL_mono hC (fun _ _ k=>ih hK k) h
theorem planL_mono (hC:LeC C C):∀(t:LT) {fr σ chk} {K K':Fr→St→Prop},(∀fr σ,K fr σ→K' fr σ)→planL C t fr σ chk K→planL C t fr σ chk K'
  | .done,fr,σ,chk,K,K',hK,h=>hK _ _ h
  | .stop,fr,σ,chk,K,K',hK,h=>trivial
  | .rd s i ck rest,fr,σ,chk,K,K',hK,h=>by
    simp only [planL] at h ⊢
    split at h
    · refine ⟨fun hg => ?_,fun hg=>planL_mono hC rest hK (h.2 hg)⟩
      have h1:=h.1 hg
      split at h1
      · exact planL_mono hC rest hK h1
      · exact h1
    · exact h
  | .mv s drop rest alt,fr,σ,chk,K,K',hK,h=>by
    simp only [planL] at h ⊢
    exact ⟨stepL_mono hC (fun fr σ k=>⟨k.1,planL_mono hC rest hK k.2⟩) h.1,planL_mono hC alt hK h.2⟩
theorem execL_mono (hC:LeC C C):∀(c:LCode) {fr σ} {K K':KC},(∀e fr σ,K e fr σ→K' e fr σ)→execL C P rd c fr σ K→execL C P rd c fr σ K'
  | .skip,fr,σ,K,K',hK,h=>hK _ _ _ h
  | .sq l,fr,σ,K,K',hK,h=>seqL_mono (hC:=hC) l (fun _ _ k=>hK _ _ _ k) h
  | .tree t,fr,σ,K,K',hK,h=>planL_mono hC t (fun _ _ k=>hK _ _ _ k) h
  | .seq a b,fr,σ,K,K',hK,h=>by
    simp only [execL] at h ⊢
    exact execL_mono hC a (roundK_mono (fun fr s h=>execL_mono hC b hK h) hK) h
  | .cond c a b,fr,σ,K,K',hK,h=>by
    simp only [execL] at h ⊢
    split at h
    · exact ⟨fun hx=>execL_mono hC a hK (h.1 hx),fun hx=>execL_mono hC b hK (h.2 hx)⟩
    · exact h
  | .block id b,fr,σ,K,K',hK,h=>by
    simp only [execL] at h ⊢
    exact execL_mono hC b (blockK_mono hK) h
  | .loop m b,fr,σ,K,K',hK,h=>by
    simp only [execL] at h ⊢
    intro I hI
    exact h I fun fr s hu hb=>hI fr s hu (execL_mono hC b (roundK_mono (fun _ _ h=>h) hK) hb)
  | .exit id,fr,σ,K,K',hK,h=>hK _ _ _ h
  | .ret,fr,σ,K,K',hK,h=>hK _ _ _ h
  | .rfun g f ps a b,fr,σ,K,K',hK,h=>by
    simp only [execL] at h ⊢
    refine ⟨h.1,?_⟩
    have h2:=h.2
    split at h2
    · refine ⟨h2.1,hC _ _ _ _ _ (fun v s hk => ?_) h2.2⟩
      split at hk
      · exact ⟨hk.1,hK _ _ _ hk.2⟩
      · exact hk
    · exact h2
  | .bad,fr,σ,K,K',hK,h=>h
theorem loop_step (hC : LeC C C) {m : List Bool} {b : LCode} {n0 : Nat} {is : List Item} {fr fr0 : Fr} {S : List (List AV)} {H : List HObj} {K : KC} (hk : keep m fr = fr0) (hu : underL n0 fr0 = true)
    (h:runC C P rd b (.lp m b n0 :: is) fr0 ⟨S.take n0,H⟩ K):runLp C P rd m b n0 is fr ⟨S,H⟩ K:=by
  subst hk
  exact loopW_fold (fun fr σ K K' hK h=>execL_mono hC b hK h) hu h
end
end Go.AM
namespace Go.AM
open Go
structure Key where
  b:List UInt8
  h:b.length=16
theorem Key.ext' {x y:Key} (h:x.b=y.b):x=y:=by cases x; cases y; cases h; rfl
instance:DecidableEq Key:=fun x y=>if h:x.b=y.b then isTrue (Key.ext' h) else isFalse fun e=>h (by rw [e])
def u8 (b:UInt8):AV := .s (.int .u8 b.toNat)
def bs (l:List UInt8):List AV:=l.map u8
abbrev Key.c (k:Key):List AV:=bs k.b
theorem bs_length (l:List UInt8):(bs l).length=l.length:=by simp [bs]
theorem kc_length (k:Key):(bs k.b).length=16:=by simp [bs,k.h]
theorem under_u8 (n:Nat) (b:UInt8):AV.under n (u8 b)=true:=rfl
theorem under_bs (n:Nat):∀(l:List UInt8),AV.under.go n (bs l)=true
  | []=>rfl
  | b :: l=>by simp only [bs,List.map_cons,AV.under.go,under_u8,Bool.true_and]; exact under_bs n l
theorem newBox_stk {cs:List AV} {S:List (List AV)} {H:List HObj} (h:underL S.length cs=true):newBox false cs ⟨S,H⟩=some (.stk S.length,⟨S ++ [cs],H⟩):=by
  unfold newBox; simp [h]
theorem newBox_heap {cs:List AV} {S:List (List AV)} {H:List HObj} (h:underL 0 cs=true):newBox true cs ⟨S,H⟩=some (.heap H.length,⟨S,H ++ [.cells cs]⟩):=by
  unfold newBox; simp [h]
theorem app_get0 {α:Type} (S l:List α):(S ++ l)[S.length]? = l[0]? := by rw [List.getElem?_append_right (Nat.le_refl _),Nat.sub_self]
theorem app_get {α:Type} (S l:List α) (k:Nat):(S ++ l)[S.length + k]? = l[k]? := by rw [List.getElem?_append_right (Nat.le_add_right _ _),Nat.add_sub_cancel_left]
theorem app_set0 {α:Type} (S l:List α) (x:α):(S ++ l).set S.length x=S ++ l.set 0 x:=by rw [List.set_append_right _ _ (Nat.le_refl _),Nat.sub_self]
theorem app_set {α:Type} (S l:List α) (k:Nat) (x:α):(S ++ l).set (S.length + k) x=S ++ l.set k x:=by rw [List.set_append_right _ _ (Nat.le_add_right _ _),Nat.add_sub_cancel_left]
theorem app_take {α:Type} (S l:List α):(S ++ l).take S.length=S:=by simp
theorem app_take_add {α:Type} (S l:List α) (k:Nat):(S ++ l).take (S.length + k)=S ++ l.take k:=by
  induction S with
  | nil=>simp
  | cons x S ih=>rw [List.length_cons,Nat.add_right_comm,List.cons_append,List.take_succ_cons,ih]; rfl
theorem app_one {α:Type} (S:List α) (a b:List α):S ++ a ++ b=S ++ (a ++ b):=List.append_assoc _ _ _
theorem setBox_stk (S:List (List AV)) (H:List HObj) (n:Nat) (cs:List AV):setBox ⟨S,H⟩ (.stk n) cs=⟨S.set n cs,H⟩:=rfl
theorem setBox_heap (S:List (List AV)) (H:List HObj) (n:Nat) (cs:List AV):setBox ⟨S,H⟩ (.heap n) cs=⟨S,H.set n (.cells cs)⟩:=rfl
def cellsOf? : Option HObj→Option (List AV)
  | some (.cells cs)=>some cs
  | _=>none
theorem boxOf_heap (S:List (List AV)) (H:List HObj) (n:Nat):boxOf ⟨S,H⟩ (.heap n)=cellsOf? H[n]? := by
  show (match H[n]? with | some (.cells cs)=>some cs | _=>none)=cellsOf? H[n]?
  cases H[n]? with
  | none=>rfl
  | some o=>cases o <;> rfl
theorem boxOf_stk (S:List (List AV)) (H:List HObj) (n:Nat):boxOf ⟨S,H⟩ (.stk n)=S[n]? := rfl
theorem wrap_i64 {x:Int} (h1 : -9223372036854775808≤x) (h2:x≤9223372036854775807):IntKind.i64.wrap x=x:=by
  unfold IntKind.wrap
  simp [IntKind.signed,IntKind.bits]
  omega
theorem bs_get {l:List UInt8} {i:Nat} (h:i < l.length):(bs l)[i]? = some (u8 l[i]):=by
  simp [bs,h]
theorem bs_take (l:List UInt8) (n:Nat):(bs l).take n=bs (l.take n):=by simp [bs]
theorem bs_drop (l:List UInt8) (n:Nat):(bs l).drop n=bs (l.drop n):=by simp [bs]
theorem look_u8 (b:UInt8):(u8 b).look=u8 b:=rfl
theorem map_look_bs (l:List UInt8):(bs l).map AV.look=bs l:=by simp [bs,look_u8]
theorem bytesIn_bs:∀(l:List UInt8),bytesIn (bs l)=some l
  | []=>rfl
  | b :: l=>by
    show (bytesIn (bs l)).map _=_
    rw [bytesIn_bs l]; simp
theorem gd_t (b:Bool):(b == true)=b:=by cases b <;> rfl
theorem gd_f (b:Bool):(b == false) = !b:=by cases b <;> rfl
theorem cast_lit {n:Nat}:((no_index (OfNat.ofNat n):Nat):Int)=OfNat.ofNat n:=rfl
theorem group_one:∀(n:Nat) (cs:List AV),cs.length=n→groupL ⟨1,false,1,.undef⟩ n cs=cs
  | 0,cs,h=>by cases cs <;> simp_all [groupL]
  | n + 1,[],h=>by simp at h
  | n + 1,c :: cs,h=>by
    simp only [groupL,packL,List.take_succ_cons,List.take_zero,List.drop_succ_cons,List.drop_zero,List.getD_cons_zero]
    rw [group_one n cs (by simpa using h)]
theorem bs_cell {l:List UInt8}:∀c∈bs l,c.isCell=true:=by
  intro c hc
  obtain ⟨b,_,rfl⟩:=List.mem_map.1 hc
  rfl
theorem elems_row {σ:St} {r:Ref} {off len cap:Nat} {cs:List AV} (h:boxOf σ r=some cs) (hl:off + len≤cs.length) (hlook:cs.map AV.look=cs) (hcell:∀c∈cs,c.isCell=true):elemsL ⟨1,false,1,.undef⟩ (.row r off len cap) σ=some ((cs.drop off).take len):=by
  unfold elemsL
  have hm:((cs.drop off).take len).map AV.look=(cs.drop off).take len:=by
    rw [List.map_take,List.map_drop,hlook]
  simp only [Bool.false_or,beq_self_eq_true,if_true,Nat.mul_one,readCells,h,Option.bind_some]
  rw [if_pos ⟨hl,.inr (by rw [hm]; exact List.all_eq_true.2 fun c hc=>hcell c (List.mem_of_mem_drop (List.mem_of_mem_take hc)))⟩,Option.map_some,hm,group_one _ _ (by simp; omega)]
theorem conv_row {σ:St} {r:Ref} {off len cap:Nat} {l:List UInt8} (h:boxOf σ r=some (bs l)) (hl:off + len≤l.length):convL .ofBytes (.row r off len cap) σ=some (.s (.str ((l.drop off).take len))):=by
  unfold convL
  simp only [AV.isSlice,if_true]
  rw [elems_row h (by rw [bs_length]; exact hl) (map_look_bs l) bs_cell,bs_drop,bs_take]
  simp only [Option.bind_some,bytesIn_bs,Option.map_some]
theorem loop_rule {C : CallW} {P : Program} {rd : Bool} (hC : LeC C C) {m : List Bool} {b : LCode} {n0 : Nat} {is : List Item} {fr : Fr} {S : List (List AV)} {H : List HObj} {K : KC} {α : Type} (μ : α → Nat) (F : α → Fr) (S0 : α → List (List AV)) (H0 : α → List HObj) (I : α → Prop) (a0 : α)
    (h0:I a0) (hk:keep m fr=F a0) (hS:S.take n0=S0 a0) (hH:H=H0 a0) (hu:∀a,I a→underL n0 (F a)=true)
    (step:∀a,I a→(∀a' fr' S' H',μ a' < μ a→I a'→keep m fr'=F a'→S'.take n0=S0 a'→H'=H0 a'→runLp C P rd m b n0 is fr' ⟨S',H'⟩ K)→runC C P rd b (.lp m b n0 :: is) (F a) ⟨S0 a,H0 a⟩ K) :
    runLp C P rd m b n0 is fr ⟨S,H⟩ K:=by
  have main:∀(n:Nat) (a:α) (fr:Fr) (S:List (List AV)) (H:List HObj),μ a < n→I a→keep m fr=F a→S.take n0=S0 a→H=H0 a→runLp C P rd m b n0 is fr ⟨S,H⟩ K:=by
    intro n
    induction n with
    | zero=>intro a fr S H h; omega
    | succ n ih =>
      intro a fr S H h hI hk hS hH
      subst hH
      refine loop_step hC hk (hu a hI) ?_
      rw [hS]
      exact step a hI fun a' fr' S' H' hlt hI'=>ih a' fr' S' H' (by omega) hI'
  exact main (μ a0 + 1) a0 fr S H (Nat.lt_succ_self _) h0 hk hS hH
end Go.AM
namespace Go.AM
open Go
def key0:Key:=⟨List.replicate 16 0,rfl⟩
def zk:List AV:=[.s (.int .u8 0),.s (.int .u8 0),.s (.int .u8 0),.s (.int .u8 0),.s (.int .u8 0),.s (.int .u8 0),.s (.int .u8 0),.s (.int .u8 0),.s (.int .u8 0),.s (.int .u8 0),.s (.int .u8 0),.s (.int .u8 0),.s (.int .u8 0),.s (.int .u8 0),.s (.int .u8 0),.s (.int .u8 0)]
def lk:List LK:=[.int .u8,.int .u8,.int .u8,.int .u8,.int .u8,.int .u8,.int .u8,.int .u8,.int .u8,.int .u8,.int .u8,.int .u8,.int .u8,.int .u8,.int .u8,.int .u8]
theorem zk_eq:zk=bs key0.b:=rfl
theorem take_kc (k:Key) (r:List AV):(bs k.b ++ r).take 16=bs k.b:=List.take_left' (kc_length k)
theorem drop_kc (k:Key) (r:List AV):(bs k.b ++ r).drop 16=r:=List.drop_left' (kc_length k)
theorem take_kc0 (k:Key):(bs k.b).take 16=bs k.b:=List.take_of_length_le (Nat.le_of_eq (kc_length k))
theorem drop_zero' {α:Type} (l:List α):l.drop 0=l:=rfl
theorem get_kc16 (k:Key) (r:List AV):(bs k.b ++ r)[16]? = r[0]? := by rw [List.getElem?_append_right (Nat.le_of_eq (kc_length k)),kc_length]
theorem get_kc17 (k:Key) (r:List AV):(bs k.b ++ r)[17]? = r[1]? := by rw [List.getElem?_append_right (by rw [kc_length]; omega),kc_length]
theorem take_all {α:Type} {l:List α} {n:Nat} (h:l.length≤n):l.take n=l:=List.take_of_length_le h
theorem look_app (a b:List AV):(a ++ b).map AV.look=a.map AV.look ++ b.map AV.look:=List.map_append
theorem under_app' {n:Nat} (l l':List AV):AV.under.go n (l ++ l')=(AV.under.go n l && AV.under.go n l'):=under_app
theorem readA_rop {σ:St} {cs:List AV} {n:Nat} (h:n≤cs.length):readA σ (.rop cs) n=some (.agg (cs.take n)):=by simp [readA,readCells,h]
theorem readA_stk {S:List (List AV)} {l:List (List AV)} {H:List HObj} {j n off:Nat} (hj:j < l.length) (h:off + n≤(l.getD j []).length) (hn:n≠1):readA ⟨S ++ l,H⟩ (.ptr (.stk (S.length + j)) off) n=some (.agg ((((l.getD j []).drop off).take n).map AV.look)):=by
  have e:l[j]? = some (l.getD j []):=by simp [List.getD,hj]
  simp only [readA,readCells,boxOf_stk,app_get,e,Option.bind_some,if_pos (And.intro h (Or.inl hn)),Option.map_some]
theorem readA_stk0 {S:List (List AV)} {l:List (List AV)} {H:List HObj} {n off:Nat} (hj:0 < l.length) (h:off + n≤(l.getD 0 []).length) (hn:n≠1):readA ⟨S ++ l,H⟩ (.ptr (.stk S.length) off) n=some (.agg ((((l.getD 0 []).drop off).take n).map AV.look)):=readA_stk (j:=0) hj h hn
theorem storeL_stk {S:List (List AV)} {l:List (List AV)} {H:List HObj} {j n:Nat} {vs:List AV} (hj:j < l.length) (h:(l.getD j []).length=n) (hv:vs.length=n) (hn:2≤n) (hu:AV.under.go (S.length + j) vs=true):storeL n (.ptr (.stk (S.length + j)) 0) (.agg vs) ⟨S ++ l,H⟩=some ⟨S ++ l.set j vs,H⟩:=by
  have e:l[j]? = some (l.getD j []):=by simp [List.getD,hj]
  have hs:splice (l.getD j []) 0 vs=vs:=by
    unfold splice
    split
    · simp at hv; omega
    · rw [List.take_zero,List.nil_append,Nat.zero_add,hv,List.drop_of_length_le (Nat.le_of_eq h),List.append_nil]
  simp only [storeL,AV.cells,AV.fit,hv,writeCells,boxOf_stk,app_get,e,Option.bind_some,hs,setBox_stk,app_set,mayHold,hu,h,Nat.zero_add,Nat.le_refl,decide_true,Bool.and_self,if_true,true_and]
  rw [if_pos (by simp; omega)]
theorem storeL_stk0 {S:List (List AV)} {l:List (List AV)} {H:List HObj} {n:Nat} {vs:List AV} (hj:0 < l.length) (h:(l.getD 0 []).length=n) (hv:vs.length=n) (hn:2≤n) (hu:AV.under.go S.length vs=true):storeL n (.ptr (.stk S.length) 0) (.agg vs) ⟨S ++ l,H⟩=some ⟨S ++ l.set 0 vs,H⟩:=storeL_stk (j:=0) hj h hv hn hu
theorem storeL1_stk {S:List (List AV)} {l:List (List AV)} {H:List HObj} {j off:Nat} {v:AV} (hj:j < l.length) (h:off < (l.getD j []).length) (hc:v.cells=[v]) (hf:v.fit=true) (hu:AV.under (S.length + j) v=true):storeL 1 (.ptr (.stk (S.length + j)) off) v ⟨S ++ l,H⟩=some ⟨S ++ l.set j ((l.getD j []).set off v),H⟩:=by
  have e:l[j]? = some (l.getD j []):=by simp [List.getD,hj]
  have h1:off + 1≤(l.getD j []).length:=h
  simp only [storeL,hc,hf,List.length_cons,List.length_nil,writeCells,boxOf_stk,app_get,e,Option.bind_some,splice,setBox_stk,app_set,mayHold,AV.under.go,hu,Nat.zero_add,h1,decide_true,Bool.and_self,if_true,true_and,and_self]
  rw [if_pos (by simp)]
theorem storeL1_stk0 {S:List (List AV)} {l:List (List AV)} {H:List HObj} {off:Nat} {v:AV} (hj:0 < l.length) (h:off < (l.getD 0 []).length) (hc:v.cells=[v]) (hf:v.fit=true) (hu:AV.under S.length v=true):storeL 1 (.ptr (.stk S.length) off) v ⟨S ++ l,H⟩=some ⟨S ++ l.set 0 ((l.getD 0 []).set off v),H⟩:=storeL1_stk (j:=0) hj h hc hf hu
theorem storeS_stk {S:List (List AV)} {l:List (List AV)} {H:List HObj} {j off:Nat} {x:Sc} (hj:j < l.length) (h:off < (l.getD j []).length):storeL 1 (.ptr (.stk (S.length + j)) off) (.s x) ⟨S ++ l,H⟩=some ⟨S ++ l.set j ((l.getD j []).set off (.s x)),H⟩:=storeL1_stk hj h rfl rfl rfl
theorem storeS_stk0 {S:List (List AV)} {l:List (List AV)} {H:List HObj} {off:Nat} {x:Sc} (hj:0 < l.length) (h:off < (l.getD 0 []).length):storeL 1 (.ptr (.stk S.length) off) (.s x) ⟨S ++ l,H⟩=some ⟨S ++ l.set 0 ((l.getD 0 []).set off (.s x)),H⟩:=storeL1_stk0 hj h rfl rfl rfl
theorem storeQ_stk {S:List (List AV)} {l:List (List AV)} {H:List HObj} {j off sz:Nat} {fl:Fl} {es:List AV} (hj:j < l.length) (h:off < (l.getD j []).length):storeL 1 (.ptr (.stk (S.length + j)) off) (.list fl sz es) ⟨S ++ l,H⟩=some ⟨S ++ l.set j ((l.getD j []).set off (.list fl sz es)),H⟩:=storeL1_stk hj h rfl rfl rfl
theorem storeQ_stk0 {S:List (List AV)} {l:List (List AV)} {H:List HObj} {off sz:Nat} {fl:Fl} {es:List AV} (hj:0 < l.length) (h:off < (l.getD 0 []).length):storeL 1 (.ptr (.stk S.length) off) (.list fl sz es) ⟨S ++ l,H⟩=some ⟨S ++ l.set 0 ((l.getD 0 []).set off (.list fl sz es)),H⟩:=storeL1_stk0 hj h rfl rfl rfl
theorem cellsOf_some {cs:List AV}:cellsOf? (some (.cells cs))=some cs:=rfl
theorem under_s {n:Nat} {x:Sc}:AV.under n (.s x)=true:=rfl
theorem cells_s {x:Sc}:(AV.s x).cells=[.s x]:=rfl
theorem fit_s {x:Sc}:(AV.s x).fit=true:=rfl
theorem under_list {n sz:Nat} {fl:Fl} {es:List AV}:AV.under n (.list fl sz es)=true:=rfl
theorem cells_list {sz:Nat} {fl:Fl} {es:List AV}:(AV.list fl sz es).cells=[.list fl sz es]:=rfl
theorem fit_list {sz:Nat} {fl:Fl} {es:List AV}:(AV.list fl sz es).fit=true:=rfl
theorem cells_u8 {x:UInt8}:(u8 x).cells=[u8 x]:=rfl
theorem fit_u8 {x:UInt8}:(u8 x).fit=true:=rfl
def kA (k:Key):AV := .agg (bs k.b)
theorem kA_cells {k:Key}:(kA k).cells=bs k.b:=rfl
theorem kA_under {n:Nat} {k:Key}:AV.under n (kA k)=true:=by simp [kA,AV.under,under_bs]
theorem kA_low {n:Nat}:∀{l:List Key},AV.under.go n (l.map kA)=true
  | []=>rfl
  | k :: l=>by simp only [List.map_cons,AV.under.go,kA_under,kA_low (l:=l),Bool.and_self]
theorem kA_calm {k:Key}:(kA k).calm=kA k:=rfl
theorem elems_list {e:ET} {fl:Fl} {es:List AV} {σ:St}:elemsL e (.list fl e.c es) σ=some es:=by simp [elemsL]
theorem ixl_map {α:Type} {f:α→AV} {l:List α} {i c:Nat} {k:IntKind} (h:i < l.length) (hc:c≠0):indexAddrL (.sl c) (.list .sh c (l.map f)) (.s (.int k (i:Int)))=some (.rop (f l[i]).cells):=by
  have h1:(0:Int)≤i:=by omega
  have h2:(i:Int) < (l.map f).length:=by simp; omega
  simp only [indexAddrL,h1,h2,hc,ne_eq,not_false_eq_true,reduceCtorEq,and_self,if_true,Int.toNat_natCast]
  simp [List.getD,h]
theorem ixl_k {l:List Key} {i c:Nat} {k:IntKind} (h:i < l.length) (hc:c≠0):indexAddrL (.sl c) (.list .sh c (l.map kA)) (.s (.int k (i:Int)))=some (.rop (bs (l[i]).b)):=ixl_map h hc
theorem lenL_list {σ:St} {fl:Fl} {c:Nat} {es:List AV}:lenL .sl (.list fl c es) σ=some es.length:=rfl
theorem lenL_str {σ:St} {l:List UInt8}:lenL .str (.s (.str l)) σ=some l.length:=rfl
theorem u8_inj {a b:UInt8}:AV.beq (u8 a) (u8 b)=decide (a=b):=by
  simp only [u8,AV.beq]
  by_cases h:a=b
  · simp [h]
  · have:¬((a.toNat:Int)=b.toNat):=fun e=>h (UInt8.toNat_inj.1 (by omega))
    simp [h,this]
theorem beq_bs:∀(a b:List UInt8),AV.beq.go (bs a) (bs b)=decide (a=b)
  | [],[]=>rfl
  | [],_ :: _=>rfl
  | _ :: _,[]=>rfl
  | x :: a,y :: b=>by
    show (AV.beq (u8 x) (u8 y) && AV.beq.go (bs a) (bs b))=_
    rw [u8_inj,beq_bs a b]
    by_cases h1:x=y <;> by_cases h2:a=b <;> simp [h1,h2]
theorem beq_app:∀(a b c d:List AV),a.length=b.length→AV.beq.go (a ++ c) (b ++ d)=(AV.beq.go a b && AV.beq.go c d)
  | [],[],c,d,_=>by simp [AV.beq.go]
  | [],_ :: _,_,_,h=>by simp at h
  | _ :: _,[],_,_,h=>by simp at h
  | x :: a,y :: b,c,d,h=>by simp only [List.cons_append,AV.beq.go,beq_app a b c d (by simpa using h),Bool.and_assoc]
theorem beq_app_k (a b:Key) (c d:List AV):AV.beq.go (bs a.b ++ c) (bs b.b ++ d)=(AV.beq.go (bs a.b) (bs b.b) && AV.beq.go c d):=beq_app _ _ _ _ (by rw [kc_length,kc_length])
theorem beq_kk (a b:Key):AV.beq.go (bs a.b) (bs b.b)=decide (a=b):=by
  rw [beq_bs]
  by_cases h:a=b
  · simp [h]
  · have:¬a.b=b.b:=fun e=>h (Key.ext' e)
    simp [h,this]
theorem fits_bs:∀(l:List UInt8),fitsL (List.replicate l.length (.int .u8)) (bs l)=true
  | []=>rfl
  | x :: l=>by
    show (_ && fitsL (List.replicate l.length (.int .u8)) (bs l))=true
    rw [fits_bs l]; rfl
theorem fits_app:∀(a:List LK) (b:List LK) (c d:List AV),a.length=c.length→fitsL (a ++ b) (c ++ d)=(fitsL a c && fitsL b d)
  | [],_,[],_,_=>by simp [fitsL]
  | [],_,_ :: _,_,h=>by simp at h
  | _ :: _,_,[],_,h=>by simp at h
  | k :: a,b,x :: c,d,h=>by simp only [List.cons_append,fitsL,fits_app a b c d (by simpa using h),Bool.and_assoc]
theorem fits_k (k:Key):fitsL lk (bs k.b)=true:=by
  have:=fits_bs k.b
  rw [k.h] at this
  exact this
theorem fits_kr (k:Key) (ls:List LK) (r:List AV):fitsL (lk ++ ls) (bs k.b ++ r)=fitsL ls r:=by
  rw [fits_app _ _ _ _ (by rw [kc_length]; rfl),fits_k,Bool.true_and]
theorem slice_box {n c:Nat} {r:Ref} (h:0 < n) (hc:c≠0):sliceL (.arr n c) (.ptr r 0) none none none=some (.row r 0 n n):=by
  simp [sliceL,bound,hc,h]
theorem fillL_nil {cs:List AV}:fillL cs []=some cs:=rfl
theorem len_map' {α β:Type} (f:α→β) (l:List α):(l.map f).length=l.length:=List.length_map _
end Go.AM
namespace Go.AM
open Go
structure Wr where
  key:Key
  val:List UInt8
  gone:Bool
  deriving DecidableEq
def wc (w:Wr):List AV:=bs w.key.b ++ [.s (.str w.val),.s (.bool w.gone)]
def wA (w:Wr):AV := .agg (wc w)
theorem wc_length (w:Wr):(wc w).length=18:=by simp [wc,kc_length]
theorem wc_under {n:Nat} {w:Wr}:AV.under.go n (wc w)=true:=by simp [wc,under_app',under_bs,AV.under,AV.under.go]
theorem wA_under {n:Nat} {w:Wr}:AV.under n (wA w)=true:=wc_under
theorem wA_low {n:Nat}:∀{l:List Wr},AV.under.go n (l.map wA)=true
  | []=>rfl
  | k :: l=>by simp only [List.map_cons,AV.under.go,wA_under,wA_low (l:=l),Bool.and_self]
theorem look_wc (w:Wr):(wc w).map AV.look=wc w:=by
  rw [wc,look_app,map_look_bs]; rfl
theorem beq_wc (a b:Wr):AV.beq.go (wc a) (wc b)=decide (a=b):=by
  rw [wc,wc,beq_app_k,beq_kk]
  cases a; cases b
  simp [AV.beq.go,AV.beq,Wr.mk.injEq,Bool.decide_and,Bool.and_assoc]
theorem fits_wc (w:Wr):fitsL (lk ++ [.str,.bool]) (wc w)=true:=by rw [wc,fits_kr]; rfl
theorem ixl_w {l:List Wr} {i c:Nat} {k:IntKind} (h:i < l.length) (hc:c≠0):indexAddrL (.sl c) (.list .sh c (l.map wA)) (.s (.int k (i:Int)))=some (.rop (wc l[i])):=ixl_map h hc
theorem take_wc (w:Wr):(wc w).take 18=wc w:=List.take_of_length_le (Nat.le_of_eq (wc_length w))
theorem take_wk (w:Wr):(wc w).take 16=bs w.key.b:=take_kc _ _
theorem drop_wc (w:Wr):(wc w).drop 16=[.s (.str w.val),.s (.bool w.gone)]:=drop_kc _ _
def lstW (l:List Wr):AV := .list .sh 18 (l.map wA)
theorem shift_rop {cs:List AV} {o:Nat}:shift (.rop cs) o=some (.rop (cs.drop o)):=rfl
theorem load1_rop {σ:St} {v:AV} {cs:List AV}:load1L false (.rop (v :: cs)) σ=some (v,σ):=rfl
theorem WkF.full {sz:Nat} {es azz bs:List AV} (h:WkF azz bs):WkF (.list .full sz es :: azz) (.list .sh sz es :: bs) := .wk (show WkL [.list .full sz es] _ from .full .nil) h
theorem WkF.own {sz:Nat} {es azz bs:List AV} (h:WkF azz bs):WkF (.list .own sz es :: azz) (.list .sh sz es :: bs) := .wk (show WkL [.list .sh sz es] _ from .same .nil) h
theorem WkF.uniq {sz:Nat} {es azz bs:List AV} (h:WkF azz bs):WkF (.list .uniq sz es :: azz) (.list .sh sz es :: bs) := .wk (show WkL [.list .sh sz es] _ from .same .nil) h
theorem WkF.nilS {sz:Nat} {azz bs:List AV} (hs:0 < sz) (h:WkF azz bs):WkF (.s .nilS :: azz) (.list .sh sz [] :: bs) := .wk (show WkL [.s .nilS] _ from .nilS hs .nil) h
def WkC (C:CallW):Prop:=∀t azz bs σ K,WkF azz bs→C t bs σ K→C t azz σ K
end Go.AM
namespace Go.AM
open Go
def okC (s:LStep) (fr:Fr) (v:AV) (σ:St):Option Bool→Prop
  | some true=>sameV (readL s fr σ) v=true
  | some false=>AV.beq (.tup []) v=true
  | none=>False
def okAll (drop:List Nat) (σ:St):List LChk→Prop
  | []=>True
  | c :: cs=>(drop.contains c.i=false→okC c.s c.fr c.v σ (guardL c.fr c.s.guard))∧okAll drop σ cs
def leftC (drop:List Nat):List LChk→List LChk
  | []=>[]
  | c :: cs=>if drop.contains c.i=true then leftC drop cs else c :: leftC drop cs
theorem okAll_nil {drop σ}:okAll drop σ []=True:=rfl
theorem okAll_cons {drop σ i s fr v cs}:okAll drop σ (⟨i,s,fr,v⟩ :: cs)=((drop.contains i=false→okC s fr v σ (guardL fr s.guard))∧okAll drop σ cs):=(rfl)
theorem leftC_nil {drop}:leftC drop []=[]:=rfl
theorem leftC_cons {drop i s fr v cs}:leftC drop (⟨i,s,fr,v⟩ :: cs)=if drop.contains i=true then leftC drop cs else ⟨i,s,fr,v⟩ :: leftC drop cs:=(rfl)
theorem okC_true {s fr v σ}:okC s fr v σ (some true)=(sameV (readL s fr σ) v=true):=(rfl)
theorem okC_false {s fr v σ}:okC s fr v σ (some false)=(AV.beq (.tup []) v=true):=(rfl)
theorem sameV_some {u v}:sameV (some u) v=u.beq v:=(rfl)
theorem leftC_eq {drop:List Nat}:∀(l:List LChk),(l.filter fun c => !drop.contains c.i)=leftC drop l
  | []=>rfl
  | c :: cs=>by
    rw [List.filter_cons,leftC,leftC_eq cs]
    cases drop.contains c.i <;> rfl
theorem okAll_eq {drop:List Nat} {σ:St}:∀{l:List LChk},okAll drop σ l→(l.filter fun c => !drop.contains c.i).all (fun c=>c.ok σ)=true
  | [],_=>rfl
  | c :: cs,h=>by
    rw [List.filter_cons]
    have h2:=okAll_eq h.2
    cases hd:drop.contains c.i with
    | true=>simpa [hd] using h2
    | false =>
      have h1:=h.1 hd
      have hc:c.ok σ=true:=by
        unfold LChk.ok
        cases hg:guardL c.fr c.s.guard with
        | none=>rw [hg] at h1; exact h1.elim
        | some b=>rw [hg] at h1; cases b <;> exact h1
      simp only [Bool.not_false,if_true,List.all_cons,hc,h2,Bool.and_self]
theorem mvK_chk {C:CallW} {P:Program} {rd:Bool} {drop chk rest is K fr σ} (h:okAll drop σ chk∧runT C P rd rest (leftC drop chk) is fr σ K):mvK C P rd drop chk rest is K fr σ:=by
  refine ⟨okAll_eq h.1,?_⟩
  rw [leftC_eq]; exact h.2
theorem okAll_iff {drop:List Nat} {σ:St}:∀{l:List LChk},(l.filter fun c => !drop.contains c.i).all (fun c=>c.ok σ)=true→okAll drop σ l
  | [],_=>trivial
  | c :: cs,h=>by
    rw [List.filter_cons] at h
    cases hd:drop.contains c.i with
    | true =>
      rw [hd] at h
      refine ⟨fun e => ?_,okAll_iff (by simpa using h)⟩
      rw [hd] at e; cases e
    | false =>
      rw [hd] at h
      simp only [Bool.not_false,if_true,List.all_cons,Bool.and_eq_true] at h
      refine ⟨fun _ => ?_,okAll_iff h.2⟩
      have h1:=h.1
      unfold LChk.ok at h1
      cases hg:guardL c.fr c.s.guard with
      | none=>rw [hg] at h1; cases h1
      | some b=>rw [hg] at h1; cases b <;> exact h1
theorem mvK_cons {C:CallW} {P:Program} {rd:Bool} {drop c chk rest is K fr σ}:mvK C P rd drop (c :: chk) rest is K fr σ=(okAll drop σ (c :: chk)∧runT C P rd rest (leftC drop (c :: chk)) is fr σ K) :=
  propext ⟨fun h=>⟨okAll_iff h.1,by have:=h.2; rwa [leftC_eq] at this⟩,mvK_chk⟩
end Go.AM
namespace Go.AM
open Go
theorem RUN_ :
  (((((((type_of% @Go.AM.runC_skip∧(type_of% @Go.AM.runC_sq∧type_of% @Go.AM.runC_tree))∧((type_of% @Go.AM.runC_seq∧type_of% @Go.AM.runC_cond)∧(type_of% @Go.AM.runC_block∧type_of% @Go.AM.runC_exit)))∧(((type_of% @Go.AM.runC_ret∧type_of% @Go.AM.runC_loop)∧(type_of% @Go.AM.cnd_true∧type_of% @Go.AM.cnd_false))∧((type_of% @Go.AM.nxt_nil∧type_of% @Go.AM.nxt_c)∧(type_of% @Go.AM.nxt_blk∧type_of% @Go.AM.nxt_lp))))∧((((type_of% @Go.AM.ext_nil∧type_of% @Go.AM.ext_c)∧(type_of% @Go.AM.ext_blk∧type_of% @Go.AM.ext_lp))∧((type_of% @Go.AM.rtn_nil∧type_of% @Go.AM.rtn_c)∧(type_of% @Go.AM.rtn_blk∧type_of% @Go.AM.rtn_lp)))∧(((type_of% @Go.AM.runS_nil∧type_of% @Go.AM.runS_op)∧(type_of% @Go.AM.runS_grd∧type_of% @Go.AM.grd_true))∧((type_of% @Go.AM.grd_false∧type_of% @Go.AM.thn_some)∧(type_of% @Go.AM.opS_call∧type_of% @Go.AM.call_fn)))))∧((((type_of% @Go.AM.call_yield∧(type_of% @Go.AM.bak_eq∧type_of% @Go.AM.mb_t))∧((type_of% @Go.AM.mb_f∧type_of% @Go.AM.mayb_sc)∧(type_of% @Go.AM.mayb_bl∧type_of% @Go.AM.mayb_leaf)))∧(((type_of% @Go.AM.mayb_r0∧type_of% @Go.AM.mayb_r1)∧(type_of% @Go.AM.mayb_r2∧type_of% @Go.AM.mayb_r3))∧((type_of% @Go.AM.isEq.eq_1∧type_of% @Go.AM.isEq.eq_2)∧(type_of% @Go.AM.isEq.eq_3∧type_of% @Go.AM.maybeNil.eq_1))))∧((((type_of% @Go.AM.maybeNil.eq_2∧type_of% @Go.AM.maybeNil.eq_3)∧(type_of% @Go.AM.runT_done∧type_of% @Go.AM.runT_stop))∧((type_of% @Go.AM.runT_rd∧type_of% @Go.AM.rdG_true)∧(type_of% @Go.AM.rdG_false∧type_of% @Go.AM.rdV_some)))∧(((type_of% @Go.AM.runT_mv∧type_of% @Go.AM.mvG_true)∧(type_of% @Go.AM.mvG_false∧type_of% @Go.AM.t_mv))∧((type_of% @Go.AM.t_pick∧type_of% @Go.AM.t_alloc)∧(type_of% @Go.AM.t_box∧type_of% @Go.AM.t_build))))))∧(((((type_of% @Go.AM.t_bsl∧(type_of% @Go.AM.t_loadA∧type_of% @Go.AM.t_load1))∧((type_of% @Go.AM.t_store∧type_of% @Go.AM.t_nilc)∧(type_of% @Go.AM.t_bin∧type_of% @Go.AM.t_un)))∧(((type_of% @Go.AM.t_conv∧type_of% @Go.AM.t_mkfn)∧(type_of% @Go.AM.t_mkmap∧type_of% @Go.AM.t_mksl))∧((type_of% @Go.AM.t_slc∧type_of% @Go.AM.t_shift)∧(type_of% @Go.AM.t_part∧type_of% @Go.AM.t_ixa))))∧((((type_of% @Go.AM.t_ixs∧type_of% @Go.AM.t_ixv)∧(type_of% @Go.AM.t_look∧type_of% @Go.AM.t_upd))∧((type_of% @Go.AM.t_ext∧type_of% @Go.AM.t_len)∧(type_of% @Go.AM.t_cap∧type_of% @Go.AM.t_app)))∧(((type_of% @Go.AM.t_cpy∧type_of% @Go.AM.t_del)∧(type_of% @Go.AM.t_clr∧type_of% @Go.AM.t_mn))∧((type_of% @Go.AM.t_mx∧type_of% @Go.AM.t_thaw)∧(type_of% @Go.AM.t_frz∧type_of% @Go.AM.thnT_some)))))∧(((((type_of% @Go.AM.opT_call∧type_of% @Go.AM.callT_fn)∧(type_of% @Go.AM.callT_yield∧type_of% @Go.AM.bakT_eq))∧((type_of% @Go.AM.mvK_nil∧type_of% @Go.AM.readL.eq_1)∧(type_of% @Go.AM.LOp.opds.eq_1∧type_of% @Go.AM.LOp.opds.eq_2)))∧(((type_of% @Go.AM.LOp.opds.eq_3∧type_of% @Go.AM.LOp.opds.eq_4)∧(type_of% @Go.AM.LOp.opds.eq_5∧type_of% @Go.AM.LOp.opds.eq_6))∧((type_of% @Go.AM.LOp.opds.eq_7∧type_of% @Go.AM.LOp.opds.eq_8)∧(type_of% @Go.AM.LOp.opds.eq_9∧type_of% @Go.AM.LOp.opds.eq_10))))∧((((type_of% @Go.AM.LOp.opds.eq_11∧type_of% @Go.AM.LOp.opds.eq_12)∧(type_of% @Go.AM.LOp.opds.eq_13∧type_of% @Go.AM.LOp.opds.eq_14))∧((type_of% @Go.AM.LOp.opds.eq_15∧type_of% @Go.AM.LOp.opds.eq_16)∧(type_of% @Go.AM.LOp.opds.eq_17∧type_of% @Go.AM.LOp.opds.eq_18)))∧(((type_of% @Go.AM.LOp.opds.eq_19∧type_of% @Go.AM.LOp.opds.eq_20)∧(type_of% @Go.AM.LOp.opds.eq_21∧type_of% @Go.AM.LOp.opds.eq_22))∧((type_of% @Go.AM.LOp.opds.eq_23∧type_of% @Go.AM.LOp.opds.eq_24)∧(type_of% @Go.AM.LOp.opds.eq_25∧type_of% @Go.AM.LOp.opds.eq_26)))))))∧((((((type_of% @Go.AM.LOp.opds.eq_27∧(type_of% @Go.AM.LOp.opds.eq_28∧type_of% @Go.AM.LOp.opds.eq_29))∧((type_of% @Go.AM.LOp.opds.eq_30∧type_of% @Go.AM.LOp.opds.eq_31)∧(type_of% @Go.AM.LOp.opds.eq_32∧type_of% @Go.AM.LOp.opds.eq_33)))∧(((type_of% @Go.AM.LOp.opds.eq_34∧type_of% @Go.AM.LOp.opds.eq_35)∧(type_of% @Go.AM.LOp.opds.eq_36∧type_of% @Go.AM.LOp.opds.eq_37))∧((type_of% @Go.AM.LOp.opds.eq_38∧type_of% @Go.AM.LOp.opds.eq_39)∧(type_of% @Go.AM.calmL.eq_1∧type_of% @Go.AM.calmL.eq_2))))∧((((type_of% @Go.AM.AV.isUniq.eq_1∧type_of% @Go.AM.AV.isUniq.eq_2)∧(type_of% @Go.AM.depL.eq_1∧type_of% @Go.AM.depL.eq_2))∧((type_of% @Go.AM.depL.eq_3∧type_of% @Go.AM.depL.eq_4)∧(type_of% @Go.AM.depL.eq_5∧type_of% @Go.AM.depL.eq_6)))∧(((type_of% @Go.AM.depL.eq_7∧type_of% @Go.AM.settledL.eq_1)∧(type_of% @Go.AM.settledL.eq_2∧type_of% @Go.AM.settledL.eq_3))∧((type_of% @Go.AM.settledL.eq_4∧type_of% @Go.AM.settledL.eq_5)∧(type_of% @Go.AM.settledL.eq_6∧type_of% @Go.AM.settledL.eq_7)))))∧((((type_of% @Go.AM.settledL.eq_8∧(type_of% @Go.AM.settledL.eq_9∧type_of% @Go.AM.settledL.eq_10))∧((type_of% @Option.toList_none.{0}∧type_of% @Option.toList_some.{0})∧(type_of% @Go.AM.e_mv∧type_of% @Go.AM.e_pick)))∧(((type_of% @Go.AM.e_alloc∧type_of% @Go.AM.e_box)∧(type_of% @Go.AM.e_build∧type_of% @Go.AM.e_bsl))∧((type_of% @Go.AM.e_loadA∧type_of% @Go.AM.e_load1)∧(type_of% @Go.AM.e_store∧type_of% @Go.AM.e_nilc))))∧((((type_of% @Go.AM.e_bin∧type_of% @Go.AM.e_un)∧(type_of% @Go.AM.e_conv∧type_of% @Go.AM.e_mkfn))∧((type_of% @Go.AM.e_mkmap∧type_of% @Go.AM.e_mksl)∧(type_of% @Go.AM.e_slc∧type_of% @Go.AM.e_shift)))∧(((type_of% @Go.AM.e_part∧type_of% @Go.AM.e_ixa)∧(type_of% @Go.AM.e_ixs∧type_of% @Go.AM.e_ixv))∧((type_of% @Go.AM.e_look∧type_of% @Go.AM.e_upd)∧(type_of% @Go.AM.e_ext∧type_of% @Go.AM.e_len))))))∧(((((type_of% @Go.AM.e_cap∧(type_of% @Go.AM.e_app∧type_of% @Go.AM.e_cpy))∧((type_of% @Go.AM.e_del∧type_of% @Go.AM.e_clr)∧(type_of% @Go.AM.e_mn∧type_of% @Go.AM.e_mx)))∧(((type_of% @Go.AM.e_thaw∧type_of% @Go.AM.e_frz)∧(type_of% @Go.AM.evL.eq_1∧type_of% @Go.AM.evL.eq_2))∧((type_of% @Go.AM.evL.eq_3∧type_of% @Go.AM.evL.eq_4)∧(type_of% @Go.AM.evL.eq_5∧type_of% @Go.AM.evL.eq_6))))∧((((type_of% @Go.AM.evL.eq_7∧type_of% @Go.AM.evL.eq_8)∧(type_of% @Go.AM.evL.eq_9∧type_of% @Go.AM.evL.eq_10))∧((type_of% @Go.AM.evL.eq_11∧type_of% @Go.AM.evL.eq_12)∧(type_of% @Go.AM.evL.eq_13∧type_of% @Go.AM.evL.eq_14)))∧(((type_of% @Go.AM.evL.eq_15∧type_of% @Go.AM.evL.eq_16)∧(type_of% @Go.AM.evL.eq_17∧type_of% @Go.AM.evL.eq_18))∧((type_of% @Go.AM.evL.eq_19∧type_of% @Go.AM.evL.eq_20)∧(type_of% @Go.AM.evL.eq_21∧type_of% @Go.AM.evL.eq_22)))))∧(((((type_of% @Go.AM.evL.eq_23∧type_of% @Go.AM.evL.eq_24)∧(type_of% @Go.AM.evL.eq_25∧type_of% @Go.AM.evL.eq_26))∧((type_of% @Go.AM.evL.eq_27∧type_of% @Go.AM.evL.eq_28)∧(type_of% @Go.AM.evL.eq_29∧type_of% @Go.AM.evL.eq_30)))∧(((type_of% @Go.AM.evL.eq_31∧type_of% @Go.AM.evL.eq_32)∧(type_of% @Go.AM.evL.eq_33∧type_of% @Go.AM.evL.eq_34))∧((type_of% @Go.AM.evL.eq_35∧type_of% @Go.AM.evL.eq_36)∧(type_of% @Go.AM.evL.eq_37∧type_of% @Go.AM.evL.eq_38))))∧((((type_of% @Go.AM.evL.eq_39∧type_of% @Go.AM.evL.eq_40)∧(type_of% @Go.AM.run_fn∧type_of% @Go.AM.fin_ret))∧((type_of% @Go.AM.fin_normal∧type_of% @Go.AM.end1_nil)∧(type_of% @Go.AM.end1_one∧type_of% @Go.AM.end1_two)))∧(((type_of% @Go.AM.end1_three∧type_of% @Go.AM.end1_four)∧(type_of% @Go.AM.ress_nil∧type_of% @Go.AM.ress_t))∧((type_of% @Go.AM.ress_many∧type_of% @Go.AM.ress_one)∧(type_of% @Go.AM.cns_some∧type_of% @Go.AM.cns2_some)))))))) :=
  ⟨⟨⟨⟨⟨⟨⟨@Go.AM.runC_skip,⟨@Go.AM.runC_sq,@Go.AM.runC_tree⟩⟩,⟨⟨@Go.AM.runC_seq,@Go.AM.runC_cond⟩,⟨@Go.AM.runC_block,@Go.AM.runC_exit⟩⟩⟩,⟨⟨⟨@Go.AM.runC_ret,@Go.AM.runC_loop⟩,⟨@Go.AM.cnd_true,@Go.AM.cnd_false⟩⟩,⟨⟨@Go.AM.nxt_nil,@Go.AM.nxt_c⟩,⟨@Go.AM.nxt_blk,@Go.AM.nxt_lp⟩⟩⟩⟩,⟨⟨⟨⟨@Go.AM.ext_nil,@Go.AM.ext_c⟩,⟨@Go.AM.ext_blk,@Go.AM.ext_lp⟩⟩,⟨⟨@Go.AM.rtn_nil,@Go.AM.rtn_c⟩,⟨@Go.AM.rtn_blk,@Go.AM.rtn_lp⟩⟩⟩,⟨⟨⟨@Go.AM.runS_nil,@Go.AM.runS_op⟩,⟨@Go.AM.runS_grd,@Go.AM.grd_true⟩⟩,⟨⟨@Go.AM.grd_false,@Go.AM.thn_some⟩,⟨@Go.AM.opS_call,@Go.AM.call_fn⟩⟩⟩⟩⟩,⟨⟨⟨⟨@Go.AM.call_yield,⟨@Go.AM.bak_eq,@Go.AM.mb_t⟩⟩,⟨⟨@Go.AM.mb_f,@Go.AM.mayb_sc⟩,⟨@Go.AM.mayb_bl,@Go.AM.mayb_leaf⟩⟩⟩,⟨⟨⟨@Go.AM.mayb_r0,@Go.AM.mayb_r1⟩,⟨@Go.AM.mayb_r2,@Go.AM.mayb_r3⟩⟩,⟨⟨@Go.AM.isEq.eq_1,@Go.AM.isEq.eq_2⟩,⟨@Go.AM.isEq.eq_3,@Go.AM.maybeNil.eq_1⟩⟩⟩⟩,⟨⟨⟨⟨@Go.AM.maybeNil.eq_2,@Go.AM.maybeNil.eq_3⟩,⟨@Go.AM.runT_done,@Go.AM.runT_stop⟩⟩,⟨⟨@Go.AM.runT_rd,@Go.AM.rdG_true⟩,⟨@Go.AM.rdG_false,@Go.AM.rdV_some⟩⟩⟩,⟨⟨⟨@Go.AM.runT_mv,@Go.AM.mvG_true⟩,⟨@Go.AM.mvG_false,@Go.AM.t_mv⟩⟩,⟨⟨@Go.AM.t_pick,@Go.AM.t_alloc⟩,⟨@Go.AM.t_box,@Go.AM.t_build⟩⟩⟩⟩⟩⟩,⟨⟨⟨⟨⟨@Go.AM.t_bsl,⟨@Go.AM.t_loadA,@Go.AM.t_load1⟩⟩,⟨⟨@Go.AM.t_store,@Go.AM.t_nilc⟩,⟨@Go.AM.t_bin,@Go.AM.t_un⟩⟩⟩,⟨⟨⟨@Go.AM.t_conv,@Go.AM.t_mkfn⟩,⟨@Go.AM.t_mkmap,@Go.AM.t_mksl⟩⟩,⟨⟨@Go.AM.t_slc,@Go.AM.t_shift⟩,⟨@Go.AM.t_part,@Go.AM.t_ixa⟩⟩⟩⟩,⟨⟨⟨⟨@Go.AM.t_ixs,@Go.AM.t_ixv⟩,⟨@Go.AM.t_look,@Go.AM.t_upd⟩⟩,⟨⟨@Go.AM.t_ext,@Go.AM.t_len⟩,⟨@Go.AM.t_cap,@Go.AM.t_app⟩⟩⟩,⟨⟨⟨@Go.AM.t_cpy,@Go.AM.t_del⟩,⟨@Go.AM.t_clr,@Go.AM.t_mn⟩⟩,⟨⟨@Go.AM.t_mx,@Go.AM.t_thaw⟩,⟨@Go.AM.t_frz,@Go.AM.thnT_some⟩⟩⟩⟩⟩,⟨⟨⟨⟨⟨@Go.AM.opT_call,@Go.AM.callT_fn⟩,⟨@Go.AM.callT_yield,@Go.AM.bakT_eq⟩⟩,⟨⟨@Go.AM.mvK_nil,@Go.AM.readL.eq_1⟩,⟨@Go.AM.LOp.opds.eq_1,@Go.AM.LOp.opds.eq_2⟩⟩⟩,⟨⟨⟨@Go.AM.LOp.opds.eq_3,@Go.AM.LOp.opds.eq_4⟩,⟨@Go.AM.LOp.opds.eq_5,@Go.AM.LOp.opds.eq_6⟩⟩,⟨⟨@Go.AM.LOp.opds.eq_7,@Go.AM.LOp.opds.eq_8⟩,⟨@Go.AM.LOp.opds.eq_9,@Go.AM.LOp.opds.eq_10⟩⟩⟩⟩,⟨⟨⟨⟨@Go.AM.LOp.opds.eq_11,@Go.AM.LOp.opds.eq_12⟩,⟨@Go.AM.LOp.opds.eq_13,@Go.AM.LOp.opds.eq_14⟩⟩,⟨⟨@Go.AM.LOp.opds.eq_15,@Go.AM.LOp.opds.eq_16⟩,⟨@Go.AM.LOp.opds.eq_17,@Go.AM.LOp.opds.eq_18⟩⟩⟩,⟨⟨⟨@Go.AM.LOp.opds.eq_19,@Go.AM.LOp.opds.eq_20⟩,⟨@Go.AM.LOp.opds.eq_21,@Go.AM.LOp.opds.eq_22⟩⟩,⟨⟨@Go.AM.LOp.opds.eq_23,@Go.AM.LOp.opds.eq_24⟩,⟨@Go.AM.LOp.opds.eq_25,@Go.AM.LOp.opds.eq_26⟩⟩⟩⟩⟩⟩⟩,⟨⟨⟨⟨⟨⟨@Go.AM.LOp.opds.eq_27,⟨@Go.AM.LOp.opds.eq_28,@Go.AM.LOp.opds.eq_29⟩⟩,⟨⟨@Go.AM.LOp.opds.eq_30,@Go.AM.LOp.opds.eq_31⟩,⟨@Go.AM.LOp.opds.eq_32,@Go.AM.LOp.opds.eq_33⟩⟩⟩,⟨⟨⟨@Go.AM.LOp.opds.eq_34,@Go.AM.LOp.opds.eq_35⟩,⟨@Go.AM.LOp.opds.eq_36,@Go.AM.LOp.opds.eq_37⟩⟩,⟨⟨@Go.AM.LOp.opds.eq_38,@Go.AM.LOp.opds.eq_39⟩,⟨@Go.AM.calmL.eq_1,@Go.AM.calmL.eq_2⟩⟩⟩⟩,⟨⟨⟨⟨@Go.AM.AV.isUniq.eq_1,@Go.AM.AV.isUniq.eq_2⟩,⟨@Go.AM.depL.eq_1,@Go.AM.depL.eq_2⟩⟩,⟨⟨@Go.AM.depL.eq_3,@Go.AM.depL.eq_4⟩,⟨@Go.AM.depL.eq_5,@Go.AM.depL.eq_6⟩⟩⟩,⟨⟨⟨@Go.AM.depL.eq_7,@Go.AM.settledL.eq_1⟩,⟨@Go.AM.settledL.eq_2,@Go.AM.settledL.eq_3⟩⟩,⟨⟨@Go.AM.settledL.eq_4,@Go.AM.settledL.eq_5⟩,⟨@Go.AM.settledL.eq_6,@Go.AM.settledL.eq_7⟩⟩⟩⟩⟩,⟨⟨⟨⟨@Go.AM.settledL.eq_8,⟨@Go.AM.settledL.eq_9,@Go.AM.settledL.eq_10⟩⟩,⟨⟨@Option.toList_none.{0},@Option.toList_some.{0}⟩,⟨@Go.AM.e_mv,@Go.AM.e_pick⟩⟩⟩,⟨⟨⟨@Go.AM.e_alloc,@Go.AM.e_box⟩,⟨@Go.AM.e_build,@Go.AM.e_bsl⟩⟩,⟨⟨@Go.AM.e_loadA,@Go.AM.e_load1⟩,⟨@Go.AM.e_store,@Go.AM.e_nilc⟩⟩⟩⟩,⟨⟨⟨⟨@Go.AM.e_bin,@Go.AM.e_un⟩,⟨@Go.AM.e_conv,@Go.AM.e_mkfn⟩⟩,⟨⟨@Go.AM.e_mkmap,@Go.AM.e_mksl⟩,⟨@Go.AM.e_slc,@Go.AM.e_shift⟩⟩⟩,⟨⟨⟨@Go.AM.e_part,@Go.AM.e_ixa⟩,⟨@Go.AM.e_ixs,@Go.AM.e_ixv⟩⟩,⟨⟨@Go.AM.e_look,@Go.AM.e_upd⟩,⟨@Go.AM.e_ext,@Go.AM.e_len⟩⟩⟩⟩⟩⟩,⟨⟨⟨⟨⟨@Go.AM.e_cap,⟨@Go.AM.e_app,@Go.AM.e_cpy⟩⟩,⟨⟨@Go.AM.e_del,@Go.AM.e_clr⟩,⟨@Go.AM.e_mn,@Go.AM.e_mx⟩⟩⟩,⟨⟨⟨@Go.AM.e_thaw,@Go.AM.e_frz⟩,⟨@Go.AM.evL.eq_1,@Go.AM.evL.eq_2⟩⟩,⟨⟨@Go.AM.evL.eq_3,@Go.AM.evL.eq_4⟩,⟨@Go.AM.evL.eq_5,@Go.AM.evL.eq_6⟩⟩⟩⟩,⟨⟨⟨⟨@Go.AM.evL.eq_7,@Go.AM.evL.eq_8⟩,⟨@Go.AM.evL.eq_9,@Go.AM.evL.eq_10⟩⟩,⟨⟨@Go.AM.evL.eq_11,@Go.AM.evL.eq_12⟩,⟨@Go.AM.evL.eq_13,@Go.AM.evL.eq_14⟩⟩⟩,⟨⟨⟨@Go.AM.evL.eq_15,@Go.AM.evL.eq_16⟩,⟨@Go.AM.evL.eq_17,@Go.AM.evL.eq_18⟩⟩,⟨⟨@Go.AM.evL.eq_19,@Go.AM.evL.eq_20⟩,⟨@Go.AM.evL.eq_21,@Go.AM.evL.eq_22⟩⟩⟩⟩⟩,⟨⟨⟨⟨⟨@Go.AM.evL.eq_23,@Go.AM.evL.eq_24⟩,⟨@Go.AM.evL.eq_25,@Go.AM.evL.eq_26⟩⟩,⟨⟨@Go.AM.evL.eq_27,@Go.AM.evL.eq_28⟩,⟨@Go.AM.evL.eq_29,@Go.AM.evL.eq_30⟩⟩⟩,⟨⟨⟨@Go.AM.evL.eq_31,@Go.AM.evL.eq_32⟩,⟨@Go.AM.evL.eq_33,@Go.AM.evL.eq_34⟩⟩,⟨⟨@Go.AM.evL.eq_35,@Go.AM.evL.eq_36⟩,⟨@Go.AM.evL.eq_37,@Go.AM.evL.eq_38⟩⟩⟩⟩,⟨⟨⟨⟨@Go.AM.evL.eq_39,@Go.AM.evL.eq_40⟩,⟨@Go.AM.run_fn,@Go.AM.fin_ret⟩⟩,⟨⟨@Go.AM.fin_normal,@Go.AM.end1_nil⟩,⟨@Go.AM.end1_one,@Go.AM.end1_two⟩⟩⟩,⟨⟨⟨@Go.AM.end1_three,@Go.AM.end1_four⟩,⟨@Go.AM.ress_nil,@Go.AM.ress_t⟩⟩,⟨⟨@Go.AM.ress_many,@Go.AM.ress_one⟩,⟨@Go.AM.cns_some,@Go.AM.cns2_some⟩⟩⟩⟩⟩⟩⟩⟩
theorem FR_ :
  ((((((type_of% @Go.AM.putA.eq_1∧(type_of% @Go.AM.putA.eq_2∧type_of% @Go.AM.opL.eq_1))∧(type_of% @Go.AM.opL.eq_2∧(type_of% @Go.AM.opL.eq_3∧type_of% @Go.AM.opL.eq_4)))∧((type_of% @Go.AM.seL.eq_1∧(type_of% @Go.AM.tkL.eq_1∧type_of% @Go.AM.tkL.eq_2))∧((type_of% @Go.AM.tkL.eq_3∧type_of% @Go.AM.tkAllL.eq_1)∧(type_of% @Go.AM.tkAllL.eq_2∧type_of% @Go.AM.sharedL.eq_1))))∧(((type_of% @Go.AM.sharedL.eq_2∧(type_of% @Go.AM.settleL.eq_1∧type_of% @Go.AM.settleL.eq_2))∧((type_of% @Go.AM.guardL.eq_1∧type_of% @Go.AM.guardL.eq_2)∧(type_of% @Go.AM.AV.look.eq_1∧type_of% @Go.AM.AV.look.eq_2)))∧((type_of% @Go.AM.AV.look.eq_3∧(type_of% @Go.AM.AV.sh.eq_1∧type_of% @Go.AM.AV.sh.eq_2))∧((type_of% @Go.AM.AV.sh.eq_3∧type_of% @Go.AM.AV.left.eq_1)∧(type_of% @Go.AM.AV.left.eq_2∧type_of% @Go.AM.AV.left.eq_3)))))∧((((type_of% @Go.AM.AV.calm.eq_1∧(type_of% @Go.AM.AV.calm.eq_2∧type_of% @Go.AM.AV.cells.eq_1))∧(type_of% @Go.AM.AV.cells.eq_2∧(type_of% @Go.AM.AV.fit.eq_1∧type_of% @Go.AM.AV.fit.eq_2)))∧((type_of% @Go.AM.AV.fit.eq_3∧(type_of% @Go.AM.AV.isSlice.eq_1∧type_of% @Go.AM.AV.isSlice.eq_2))∧((type_of% @Go.AM.AV.isSlice.eq_3∧type_of% @Go.AM.AV.isSlice.eq_4)∧(type_of% @Go.AM.AV.isStr.eq_1∧type_of% @Go.AM.AV.isStr.eq_2))))∧(((type_of% @Go.AM.AV.nilKind.eq_1∧(type_of% @Go.AM.AV.nilKind.eq_2∧type_of% @Go.AM.AV.nilKind.eq_3))∧((type_of% @Go.AM.AV.nilKind.eq_4∧type_of% @Go.AM.AV.nilKind.eq_5)∧(type_of% @Go.AM.AV.refKind.eq_1∧type_of% @Go.AM.AV.refKind.eq_2)))∧((type_of% @Go.AM.AV.refKind.eq_3∧(type_of% @Go.AM.AV.refKind.eq_4∧type_of% @Go.AM.AV.refKind.eq_5))∧((type_of% @Go.AM.AV.refKind.eq_6∧type_of% @Go.AM.AV.refKind.eq_7)∧(type_of% @Go.AM.AV.refKind.eq_8∧type_of% @List.getD_cons_zero.{0}))))))∧(((((type_of% @List.getD_cons_succ.{0}∧(type_of% @List.set_cons_zero.{0}∧type_of% @List.set_cons_succ.{0}))∧(type_of% @List.getElem?_cons_zero.{0}∧(type_of% @List.getElem?_cons_succ.{0}∧type_of% @List.length_cons.{0})))∧((type_of% @List.length_nil.{0}∧(type_of% @List.replicate_succ.{0}∧type_of% @List.replicate_zero.{0}))∧((type_of% @List.cons_append.{0}∧type_of% @List.nil_append.{0})∧(type_of% @List.append_nil.{0}∧type_of% @List.map_cons.{0,0}))))∧(((type_of% @List.map_nil.{0,0}∧(type_of% @List.take_succ_cons.{0}∧type_of% @List.take_zero.{0}))∧((type_of% @List.drop_succ_cons.{0}∧type_of% @List.drop_zero.{0})∧(type_of% @List.all_cons.{0}∧type_of% @List.all_nil.{0})))∧((type_of% @Option.map_some.{0,0}∧(type_of% @Option.map_none.{0,0}∧type_of% @Option.bind_some.{0,0}))∧((type_of% @Nat.zero_add∧type_of% @Nat.add_zero)∧(type_of% @Nat.zero_mul∧type_of% @Go.AM.cast_lit)))))∧((((type_of% @Go.AM.gd_t∧(type_of% @Go.AM.gd_f∧type_of% @gt_iff_lt.{0}))∧((type_of% @ge_iff_le.{0}∧type_of% @or_self)∧(type_of% @or_false∧type_of% @false_or)))∧((type_of% @true_implies∧(type_of% @false_implies∧type_of% @and_true))∧((type_of% @true_and∧type_of% @Bool.false_eq_true)∧(type_of% @Bool.true_eq_false∧type_of% @not_false_eq_true))))∧(((type_of% @not_true_eq_false∧(type_of% @beq_self_eq_true.{0}∧type_of% @beq_iff_eq.{0}))∧((type_of% @Bool.and_true∧type_of% @Bool.true_and)∧(type_of% @Bool.and_self∧type_of% @Bool.not_true)))∧((type_of% @Bool.not_false∧(type_of% @Bool.or_false∧type_of% @Bool.false_or))∧((type_of% @Bool.or_true∧type_of% @Bool.true_or)∧(type_of% @decide_true∧type_of% @decide_false))))))) :=
  ⟨⟨⟨⟨⟨⟨@Go.AM.putA.eq_1,⟨@Go.AM.putA.eq_2,@Go.AM.opL.eq_1⟩⟩,⟨@Go.AM.opL.eq_2,⟨@Go.AM.opL.eq_3,@Go.AM.opL.eq_4⟩⟩⟩,⟨⟨@Go.AM.seL.eq_1,⟨@Go.AM.tkL.eq_1,@Go.AM.tkL.eq_2⟩⟩,⟨⟨@Go.AM.tkL.eq_3,@Go.AM.tkAllL.eq_1⟩,⟨@Go.AM.tkAllL.eq_2,@Go.AM.sharedL.eq_1⟩⟩⟩⟩,⟨⟨⟨@Go.AM.sharedL.eq_2,⟨@Go.AM.settleL.eq_1,@Go.AM.settleL.eq_2⟩⟩,⟨⟨@Go.AM.guardL.eq_1,@Go.AM.guardL.eq_2⟩,⟨@Go.AM.AV.look.eq_1,@Go.AM.AV.look.eq_2⟩⟩⟩,⟨⟨@Go.AM.AV.look.eq_3,⟨@Go.AM.AV.sh.eq_1,@Go.AM.AV.sh.eq_2⟩⟩,⟨⟨@Go.AM.AV.sh.eq_3,@Go.AM.AV.left.eq_1⟩,⟨@Go.AM.AV.left.eq_2,@Go.AM.AV.left.eq_3⟩⟩⟩⟩⟩,⟨⟨⟨⟨@Go.AM.AV.calm.eq_1,⟨@Go.AM.AV.calm.eq_2,@Go.AM.AV.cells.eq_1⟩⟩,⟨@Go.AM.AV.cells.eq_2,⟨@Go.AM.AV.fit.eq_1,@Go.AM.AV.fit.eq_2⟩⟩⟩,⟨⟨@Go.AM.AV.fit.eq_3,⟨@Go.AM.AV.isSlice.eq_1,@Go.AM.AV.isSlice.eq_2⟩⟩,⟨⟨@Go.AM.AV.isSlice.eq_3,@Go.AM.AV.isSlice.eq_4⟩,⟨@Go.AM.AV.isStr.eq_1,@Go.AM.AV.isStr.eq_2⟩⟩⟩⟩,⟨⟨⟨@Go.AM.AV.nilKind.eq_1,⟨@Go.AM.AV.nilKind.eq_2,@Go.AM.AV.nilKind.eq_3⟩⟩,⟨⟨@Go.AM.AV.nilKind.eq_4,@Go.AM.AV.nilKind.eq_5⟩,⟨@Go.AM.AV.refKind.eq_1,@Go.AM.AV.refKind.eq_2⟩⟩⟩,⟨⟨@Go.AM.AV.refKind.eq_3,⟨@Go.AM.AV.refKind.eq_4,@Go.AM.AV.refKind.eq_5⟩⟩,⟨⟨@Go.AM.AV.refKind.eq_6,@Go.AM.AV.refKind.eq_7⟩,⟨@Go.AM.AV.refKind.eq_8,@List.getD_cons_zero.{0}⟩⟩⟩⟩⟩⟩,⟨⟨⟨⟨⟨@List.getD_cons_succ.{0},⟨@List.set_cons_zero.{0},@List.set_cons_succ.{0}⟩⟩,⟨@List.getElem?_cons_zero.{0},⟨@List.getElem?_cons_succ.{0},@List.length_cons.{0}⟩⟩⟩,⟨⟨@List.length_nil.{0},⟨@List.replicate_succ.{0},@List.replicate_zero.{0}⟩⟩,⟨⟨@List.cons_append.{0},@List.nil_append.{0}⟩,⟨@List.append_nil.{0},@List.map_cons.{0,0}⟩⟩⟩⟩,⟨⟨⟨@List.map_nil.{0,0},⟨@List.take_succ_cons.{0},@List.take_zero.{0}⟩⟩,⟨⟨@List.drop_succ_cons.{0},@List.drop_zero.{0}⟩,⟨@List.all_cons.{0},@List.all_nil.{0}⟩⟩⟩,⟨⟨@Option.map_some.{0,0},⟨@Option.map_none.{0,0},@Option.bind_some.{0,0}⟩⟩,⟨⟨@Nat.zero_add,@Nat.add_zero⟩,⟨@Nat.zero_mul,@Go.AM.cast_lit⟩⟩⟩⟩⟩,⟨⟨⟨⟨@Go.AM.gd_t,⟨@Go.AM.gd_f,@gt_iff_lt.{0}⟩⟩,⟨⟨@ge_iff_le.{0},@or_self⟩,⟨@or_false,@false_or⟩⟩⟩,⟨⟨@true_implies,⟨@false_implies,@and_true⟩⟩,⟨⟨@true_and,@Bool.false_eq_true⟩,⟨@Bool.true_eq_false,@not_false_eq_true⟩⟩⟩⟩,⟨⟨⟨@not_true_eq_false,⟨@beq_self_eq_true.{0},@beq_iff_eq.{0}⟩⟩,⟨⟨@Bool.and_true,@Bool.true_and⟩,⟨@Bool.and_self,@Bool.not_true⟩⟩⟩,⟨⟨@Bool.not_false,⟨@Bool.or_false,@Bool.false_or⟩⟩,⟨⟨@Bool.or_true,@Bool.true_or⟩,⟨@decide_true,@decide_false⟩⟩⟩⟩⟩⟩⟩
theorem OPK_ :
  ((((((type_of% @Go.AM.binL.eq_1∧type_of% @Go.AM.binL.eq_2)∧(type_of% @Go.AM.binL.eq_3∧(type_of% @Go.AM.binL.eq_4∧type_of% @Go.AM.binL.eq_5)))∧((type_of% @Go.AM.binL.eq_6∧type_of% @Go.AM.binL.eq_7)∧(type_of% @Go.AM.binL.eq_8∧(type_of% @Go.AM.binL.eq_9∧type_of% @Go.AM.binL.eq_10))))∧(((type_of% @Go.AM.binL.eq_11∧type_of% @Go.AM.scBin.eq_1)∧(type_of% @Go.AM.scBin.eq_2∧(type_of% @Go.AM.scBin.eq_3∧type_of% @Go.AM.scBin.eq_4)))∧((type_of% @Go.AM.scBin.eq_5∧(type_of% @Go.AM.scBin.eq_6∧type_of% @Go.AM.blBin.eq_1))∧(type_of% @Go.AM.blBin.eq_2∧(type_of% @Go.AM.blBin.eq_3∧type_of% @Go.AM.intBin.eq_1)))))∧((((type_of% @Go.AM.intBin.eq_2∧type_of% @Go.AM.intBin.eq_3)∧(type_of% @Go.AM.intBin.eq_4∧(type_of% @Go.AM.intBin.eq_5∧type_of% @Go.AM.intBin.eq_6)))∧((type_of% @Go.AM.intBin.eq_7∧(type_of% @Go.AM.intBin.eq_8∧type_of% @Go.AM.intBin.eq_9))∧(type_of% @Go.AM.intBin.eq_10∧(type_of% @Go.AM.intBin.eq_11∧type_of% @Go.AM.intBin.eq_12))))∧(((type_of% @Go.AM.intBin.eq_13∧type_of% @Go.AM.intBin.eq_14)∧(type_of% @Go.AM.intBin.eq_15∧(type_of% @Go.AM.intBin.eq_16∧type_of% @Go.AM.intShift.eq_1)))∧((type_of% @Go.AM.intShift.eq_2∧(type_of% @Go.AM.intShift.eq_3∧type_of% @Go.AM.unL.eq_1))∧(type_of% @Go.AM.unL.eq_2∧(type_of% @Go.AM.unL.eq_3∧type_of% @Go.AM.unL.eq_4))))))∧(((((type_of% @Go.AM.load1L.eq_1∧type_of% @Go.AM.load1L.eq_2)∧(type_of% @Go.AM.load1L.eq_3∧(type_of% @Go.AM.load1L.eq_4∧type_of% @Go.AM.readCells.eq_1)))∧((type_of% @Go.AM.readCells.eq_2∧(type_of% @Go.AM.readCells.eq_3∧type_of% @Go.AM.splice.eq_1))∧(type_of% @Go.AM.splice.eq_2∧(type_of% @Go.AM.mayHold.eq_1∧type_of% @Go.AM.mayHold.eq_2))))∧(((type_of% @Go.AM.boxOf_stk∧type_of% @Go.AM.boxOf_heap)∧(type_of% @Go.AM.setBox_stk∧(type_of% @Go.AM.setBox_heap∧type_of% @Go.AM.newBox_stk)))∧((type_of% @Go.AM.newBox_heap∧(type_of% @Go.AM.app_get0∧type_of% @Go.AM.app_get))∧(type_of% @Go.AM.app_set0∧(type_of% @Go.AM.app_set∧type_of% @Go.AM.app_take)))))∧((((type_of% @Go.AM.app_one∧type_of% @List.length_append.{0})∧(type_of% @Go.AM.shift.eq_1∧(type_of% @Go.AM.shift.eq_2∧type_of% @Go.AM.shift.eq_3)))∧((type_of% @Go.AM.partL.eq_1∧(type_of% @Go.AM.partL.eq_2∧type_of% @Go.AM.capL.eq_1))∧(type_of% @Go.AM.capL.eq_2∧(type_of% @Go.AM.capL.eq_3∧type_of% @Nat.add_assoc))))∧(((type_of% @Go.AM.AV.under.eq_1∧type_of% @Go.AM.AV.under.eq_2)∧(type_of% @Go.AM.AV.under.eq_3∧(type_of% @Go.AM.AV.under.eq_4∧type_of% @Go.AM.AV.under.eq_5)))∧((type_of% @Go.AM.AV.under.eq_6∧(type_of% @Go.AM.AV.under.go.eq_1∧type_of% @Go.AM.AV.under.go.eq_2))∧(type_of% @Go.AM.finL.eq_1∧(type_of% @Go.AM.finL.eq_2∧type_of% @Go.AM.finL.eq_3))))))) :=
  ⟨⟨⟨⟨⟨⟨@Go.AM.binL.eq_1,@Go.AM.binL.eq_2⟩,⟨@Go.AM.binL.eq_3,⟨@Go.AM.binL.eq_4,@Go.AM.binL.eq_5⟩⟩⟩,⟨⟨@Go.AM.binL.eq_6,@Go.AM.binL.eq_7⟩,⟨@Go.AM.binL.eq_8,⟨@Go.AM.binL.eq_9,@Go.AM.binL.eq_10⟩⟩⟩⟩,⟨⟨⟨@Go.AM.binL.eq_11,@Go.AM.scBin.eq_1⟩,⟨@Go.AM.scBin.eq_2,⟨@Go.AM.scBin.eq_3,@Go.AM.scBin.eq_4⟩⟩⟩,⟨⟨@Go.AM.scBin.eq_5,⟨@Go.AM.scBin.eq_6,@Go.AM.blBin.eq_1⟩⟩,⟨@Go.AM.blBin.eq_2,⟨@Go.AM.blBin.eq_3,@Go.AM.intBin.eq_1⟩⟩⟩⟩⟩,⟨⟨⟨⟨@Go.AM.intBin.eq_2,@Go.AM.intBin.eq_3⟩,⟨@Go.AM.intBin.eq_4,⟨@Go.AM.intBin.eq_5,@Go.AM.intBin.eq_6⟩⟩⟩,⟨⟨@Go.AM.intBin.eq_7,⟨@Go.AM.intBin.eq_8,@Go.AM.intBin.eq_9⟩⟩,⟨@Go.AM.intBin.eq_10,⟨@Go.AM.intBin.eq_11,@Go.AM.intBin.eq_12⟩⟩⟩⟩,⟨⟨⟨@Go.AM.intBin.eq_13,@Go.AM.intBin.eq_14⟩,⟨@Go.AM.intBin.eq_15,⟨@Go.AM.intBin.eq_16,@Go.AM.intShift.eq_1⟩⟩⟩,⟨⟨@Go.AM.intShift.eq_2,⟨@Go.AM.intShift.eq_3,@Go.AM.unL.eq_1⟩⟩,⟨@Go.AM.unL.eq_2,⟨@Go.AM.unL.eq_3,@Go.AM.unL.eq_4⟩⟩⟩⟩⟩⟩,⟨⟨⟨⟨⟨@Go.AM.load1L.eq_1,@Go.AM.load1L.eq_2⟩,⟨@Go.AM.load1L.eq_3,⟨@Go.AM.load1L.eq_4,@Go.AM.readCells.eq_1⟩⟩⟩,⟨⟨@Go.AM.readCells.eq_2,⟨@Go.AM.readCells.eq_3,@Go.AM.splice.eq_1⟩⟩,⟨@Go.AM.splice.eq_2,⟨@Go.AM.mayHold.eq_1,@Go.AM.mayHold.eq_2⟩⟩⟩⟩,⟨⟨⟨@Go.AM.boxOf_stk,@Go.AM.boxOf_heap⟩,⟨@Go.AM.setBox_stk,⟨@Go.AM.setBox_heap,@Go.AM.newBox_stk⟩⟩⟩,⟨⟨@Go.AM.newBox_heap,⟨@Go.AM.app_get0,@Go.AM.app_get⟩⟩,⟨@Go.AM.app_set0,⟨@Go.AM.app_set,@Go.AM.app_take⟩⟩⟩⟩⟩,⟨⟨⟨⟨@Go.AM.app_one,@List.length_append.{0}⟩,⟨@Go.AM.shift.eq_1,⟨@Go.AM.shift.eq_2,@Go.AM.shift.eq_3⟩⟩⟩,⟨⟨@Go.AM.partL.eq_1,⟨@Go.AM.partL.eq_2,@Go.AM.capL.eq_1⟩⟩,⟨@Go.AM.capL.eq_2,⟨@Go.AM.capL.eq_3,@Nat.add_assoc⟩⟩⟩⟩,⟨⟨⟨@Go.AM.AV.under.eq_1,@Go.AM.AV.under.eq_2⟩,⟨@Go.AM.AV.under.eq_3,⟨@Go.AM.AV.under.eq_4,@Go.AM.AV.under.eq_5⟩⟩⟩,⟨⟨@Go.AM.AV.under.eq_6,⟨@Go.AM.AV.under.go.eq_1,@Go.AM.AV.under.go.eq_2⟩⟩,⟨@Go.AM.finL.eq_1,⟨@Go.AM.finL.eq_2,@Go.AM.finL.eq_3⟩⟩⟩⟩⟩⟩⟩
theorem KEY_ :
  ((((((type_of% @Go.AM.bslL.eq_1∧type_of% @Go.AM.fillE.eq_1)∧(type_of% @Go.AM.fillE.eq_2∧(type_of% @List.isEmpty_nil.{0}∧type_of% @List.isEmpty_cons.{0})))∧((type_of% @Go.AM.under_s∧type_of% @Go.AM.cells_s)∧(type_of% @Go.AM.fit_s∧(type_of% @Go.AM.under_list∧type_of% @Go.AM.cells_list))))∧(((type_of% @Go.AM.fit_list∧type_of% @Go.AM.storeS_stk)∧(type_of% @Go.AM.storeS_stk0∧(type_of% @Go.AM.storeQ_stk∧type_of% @Go.AM.storeQ_stk0)))∧((type_of% @Go.AM.cellsOf_some∧(type_of% @Go.AM.cells_u8∧type_of% @Go.AM.fit_u8))∧(type_of% @Go.AM.kA_cells∧(type_of% @Go.AM.kA_under∧type_of% @Go.AM.kA_low)))))∧((((type_of% @Go.AM.kA_calm∧type_of% @Go.AM.under_u8)∧(type_of% @Go.AM.look_u8∧(type_of% @Go.AM.elems_list∧type_of% @Go.AM.storeL_stk)))∧((type_of% @Go.AM.storeL_stk0∧(type_of% @Go.AM.readA_rop∧type_of% @Go.AM.readA_stk))∧(type_of% @Go.AM.readA_stk0∧(type_of% @Go.AM.zk_eq∧type_of% @Go.AM.kc_length))))∧(((type_of% @Go.AM.take_kc∧type_of% @Go.AM.drop_kc)∧(type_of% @Go.AM.take_kc0∧(type_of% @Go.AM.drop_zero'∧type_of% @Go.AM.get_kc16)))∧((type_of% @Go.AM.get_kc17∧(type_of% @Go.AM.take_all∧type_of% @Go.AM.look_app))∧(type_of% @Go.AM.map_look_bs∧(type_of% @Go.AM.under_app'∧type_of% @Go.AM.under_bs))))))∧(((((type_of% @Go.AM.ixl_k∧type_of% @Go.AM.lenL_list)∧(type_of% @Go.AM.lenL_str∧(type_of% @Go.AM.beq_app_k∧type_of% @Go.AM.beq_kk)))∧((type_of% @Go.AM.fits_k∧(type_of% @Go.AM.fits_kr∧type_of% @Go.AM.slice_box))∧(type_of% @Go.AM.fillL_nil∧(type_of% @Go.AM.len_map'∧type_of% @List.length_append.{0}))))∧(((type_of% @List.getD_cons_zero.{0}∧type_of% @List.getD_cons_succ.{0})∧(type_of% @Go.AM.cellsEq.eq_1∧(type_of% @List.getD_nil.{0}∧type_of% @List.length_set.{0})))∧((type_of% @Nat.zero_lt_succ∧(type_of% @Nat.lt_irrefl∧type_of% @List.set_cons_zero.{0}))∧(type_of% @List.set_cons_succ.{0}∧(type_of% @Nat.le_refl∧type_of% @Go.AM.fitsL.eq_1)))))∧((((type_of% @Go.AM.fitsL.eq_2∧type_of% @Go.AM.fitsL.eq_3)∧(type_of% @Go.AM.AV.beq.go.eq_1∧(type_of% @Go.AM.AV.beq.go.eq_2∧type_of% @Go.AM.AV.beq.go.eq_3)))∧((type_of% @Go.AM.AV.beq.eq_1∧(type_of% @Go.AM.AV.beq.eq_2∧type_of% @Go.AM.AV.beq.eq_3))∧(type_of% @Go.AM.AV.beq.eq_4∧(type_of% @Go.AM.AV.beq.eq_5∧type_of% @Go.AM.AV.beq.eq_6))))∧(((type_of% @Go.AM.AV.beq.eq_7∧type_of% @Go.AM.AV.beq.eq_8)∧(type_of% @Go.AM.AV.beq.eq_9∧(type_of% @Go.AM.AV.beq.eq_10∧type_of% @Go.AM.AV.beq.eq_11)))∧((type_of% @Go.AM.AV.beq.eq_12∧(type_of% @List.length_nil.{0}∧type_of% @List.length_cons.{0}))∧(type_of% @Go.AM.AV.cells.eq_1∧(type_of% @Go.AM.AV.cells.eq_2∧type_of% @Int.toNat_natCast))))))) :=
  ⟨⟨⟨⟨⟨⟨@Go.AM.bslL.eq_1,@Go.AM.fillE.eq_1⟩,⟨@Go.AM.fillE.eq_2,⟨@List.isEmpty_nil.{0},@List.isEmpty_cons.{0}⟩⟩⟩,⟨⟨@Go.AM.under_s,@Go.AM.cells_s⟩,⟨@Go.AM.fit_s,⟨@Go.AM.under_list,@Go.AM.cells_list⟩⟩⟩⟩,⟨⟨⟨@Go.AM.fit_list,@Go.AM.storeS_stk⟩,⟨@Go.AM.storeS_stk0,⟨@Go.AM.storeQ_stk,@Go.AM.storeQ_stk0⟩⟩⟩,⟨⟨@Go.AM.cellsOf_some,⟨@Go.AM.cells_u8,@Go.AM.fit_u8⟩⟩,⟨@Go.AM.kA_cells,⟨@Go.AM.kA_under,@Go.AM.kA_low⟩⟩⟩⟩⟩,⟨⟨⟨⟨@Go.AM.kA_calm,@Go.AM.under_u8⟩,⟨@Go.AM.look_u8,⟨@Go.AM.elems_list,@Go.AM.storeL_stk⟩⟩⟩,⟨⟨@Go.AM.storeL_stk0,⟨@Go.AM.readA_rop,@Go.AM.readA_stk⟩⟩,⟨@Go.AM.readA_stk0,⟨@Go.AM.zk_eq,@Go.AM.kc_length⟩⟩⟩⟩,⟨⟨⟨@Go.AM.take_kc,@Go.AM.drop_kc⟩,⟨@Go.AM.take_kc0,⟨@Go.AM.drop_zero',@Go.AM.get_kc16⟩⟩⟩,⟨⟨@Go.AM.get_kc17,⟨@Go.AM.take_all,@Go.AM.look_app⟩⟩,⟨@Go.AM.map_look_bs,⟨@Go.AM.under_app',@Go.AM.under_bs⟩⟩⟩⟩⟩⟩,⟨⟨⟨⟨⟨@Go.AM.ixl_k,@Go.AM.lenL_list⟩,⟨@Go.AM.lenL_str,⟨@Go.AM.beq_app_k,@Go.AM.beq_kk⟩⟩⟩,⟨⟨@Go.AM.fits_k,⟨@Go.AM.fits_kr,@Go.AM.slice_box⟩⟩,⟨@Go.AM.fillL_nil,⟨@Go.AM.len_map',@List.length_append.{0}⟩⟩⟩⟩,⟨⟨⟨@List.getD_cons_zero.{0},@List.getD_cons_succ.{0}⟩,⟨@Go.AM.cellsEq.eq_1,⟨@List.getD_nil.{0},@List.length_set.{0}⟩⟩⟩,⟨⟨@Nat.zero_lt_succ,⟨@Nat.lt_irrefl,@List.set_cons_zero.{0}⟩⟩,⟨@List.set_cons_succ.{0},⟨@Nat.le_refl,@Go.AM.fitsL.eq_1⟩⟩⟩⟩⟩,⟨⟨⟨⟨@Go.AM.fitsL.eq_2,@Go.AM.fitsL.eq_3⟩,⟨@Go.AM.AV.beq.go.eq_1,⟨@Go.AM.AV.beq.go.eq_2,@Go.AM.AV.beq.go.eq_3⟩⟩⟩,⟨⟨@Go.AM.AV.beq.eq_1,⟨@Go.AM.AV.beq.eq_2,@Go.AM.AV.beq.eq_3⟩⟩,⟨@Go.AM.AV.beq.eq_4,⟨@Go.AM.AV.beq.eq_5,@Go.AM.AV.beq.eq_6⟩⟩⟩⟩,⟨⟨⟨@Go.AM.AV.beq.eq_7,@Go.AM.AV.beq.eq_8⟩,⟨@Go.AM.AV.beq.eq_9,⟨@Go.AM.AV.beq.eq_10,@Go.AM.AV.beq.eq_11⟩⟩⟩,⟨⟨@Go.AM.AV.beq.eq_12,⟨@List.length_nil.{0},@List.length_cons.{0}⟩⟩,⟨@Go.AM.AV.cells.eq_1,⟨@Go.AM.AV.cells.eq_2,@Int.toNat_natCast⟩⟩⟩⟩⟩⟩⟩
theorem WR_ :
  (((type_of% @Go.AM.wc_length∧(type_of% @Go.AM.wc_under∧type_of% @Go.AM.wA_low))∧(type_of% @Go.AM.look_wc∧(type_of% @Go.AM.beq_wc∧type_of% @Go.AM.fits_wc)))∧((type_of% @Go.AM.ixl_w∧(type_of% @Go.AM.take_wc∧type_of% @Go.AM.take_wk))∧(type_of% @Go.AM.drop_wc∧(type_of% @Go.AM.shift_rop∧type_of% @Go.AM.load1_rop)))) :=
  ⟨⟨⟨@Go.AM.wc_length,⟨@Go.AM.wc_under,@Go.AM.wA_low⟩⟩,⟨@Go.AM.look_wc,⟨@Go.AM.beq_wc,@Go.AM.fits_wc⟩⟩⟩,⟨⟨@Go.AM.ixl_w,⟨@Go.AM.take_wc,@Go.AM.take_wk⟩⟩,⟨@Go.AM.drop_wc,⟨@Go.AM.shift_rop,@Go.AM.load1_rop⟩⟩⟩⟩
theorem CHK_ :
  (((type_of% @Go.AM.mvK_cons∧type_of% @Go.AM.okAll_nil)∧(type_of% @Go.AM.okAll_cons∧(type_of% @Go.AM.leftC_nil∧type_of% @Go.AM.leftC_cons)))∧((type_of% @Go.AM.okC_true∧type_of% @Go.AM.okC_false)∧(type_of% @Go.AM.sameV_some∧(type_of% @List.contains_cons.{0}∧type_of% @List.contains_nil.{0})))) :=
  ⟨⟨⟨@Go.AM.mvK_cons,@Go.AM.okAll_nil⟩,⟨@Go.AM.okAll_cons,⟨@Go.AM.leftC_nil,@Go.AM.leftC_cons⟩⟩⟩,⟨⟨@Go.AM.okC_true,@Go.AM.okC_false⟩,⟨@Go.AM.sameV_some,⟨@List.contains_cons.{0},@List.contains_nil.{0}⟩⟩⟩⟩
end Go.AM
namespace Go.AM
open Go
def slO (ws:List Wr):AV:=if ws=[] then .s .nilS else .list .own 18 (ws.map wA)
end Go.AM
namespace Go.AM
open Go
theorem lenL_row {σ:St} {r:Ref} {off len cap:Nat}:lenL .sl (.row r off len cap) σ=some len:=rfl
theorem lenL_nilS {σ:St}:lenL .sl (.s .nilS) σ=some 0:=rfl
theorem ixr_n {r:Ref} {off len cap i c:Nat} {k:IntKind} (h:i < len) (hc:c≠0):indexAddrL (.sl c) (.row r off len cap) (.s (.int k (i:Int)))=some (.ptr r (off + i * c)):=by
  have h1:(0:Int)≤i:=by omega
  have h2:(i:Int) < len:=by omega
  simp [indexAddrL,h1,h2,hc]
end Go.AM
namespace Go.AM
open Go
theorem K4_ :
  (type_of% @Go.AM.lenL_row∧(type_of% @Go.AM.lenL_nilS∧type_of% @Go.AM.ixr_n)) :=
  ⟨@Go.AM.lenL_row,⟨@Go.AM.lenL_nilS,@Go.AM.ixr_n⟩⟩
end Go.AM
namespace Go.AM
open Go
def loopO:Option HObj→Option LoopA
  | some (.loop l)=>some l
  | _=>none
theorem loopOf_eq {S:List (List AV)} {H:List HObj} {h:Nat}:loopOf ⟨S,H⟩ h=loopO H[h]? := by
  show (match H[h]? with | some (.loop l)=>some l | _=>none)=_
  cases H[h]? with
  | none=>rfl
  | some o=>cases o <;> rfl
theorem loopO_some {l:LoopA}:loopO (some (.loop l))=some l:=rfl
section
variable {C:CallW} {P:Program} {rd:Bool}
def rnd2' (h base:Nat) (K:AV→St→Prop) (e:Ex) (S:List (List AV)) (H:List HObj):Option LoopA→Prop
  | some l=>K (.bool (decide (e = .normal))) ⟨S.take base,H.set h (.loop { l with ready:=decide (e = .normal),pending:=if e = .normal then none else some e })⟩
  | none=>False
def rnd2 (h base:Nat) (K:AV→St→Prop):KC:=fun e _ σ=>rnd2' h base K e σ.stk σ.heap (loopOf σ h)
def rnd1' (C:CallW) (P:Program) (B:LCode) (h base:Nat) (K:AV→St→Prop) (fr:Fr) (S:List (List AV)) (H:List HObj):Option LoopA→Prop
  | some l=>l.ready=true∧l.pending=none∧runC C P true B [] fr ⟨S,H.set h (.loop { l with ready:=false })⟩ (rnd2 h base K)
  | none=>False
def rnd1 (C:CallW) (P:Program) (B:LCode) (h base:Nat) (K:AV→St→Prop):KC:=fun e fr σ=>e = .normal∧rnd1' C P B h base K fr σ.stk σ.heap (loopOf σ h)
theorem rnd1_n {B h base K fr S H}:rnd1 C P B h base K .normal fr ⟨S,H⟩=rnd1' C P B h base K fr S H (loopO H[h]?):=by
  unfold rnd1; rw [loopOf_eq]; simp
theorem rnd1_some {B h base K fr S H fid fr0 ps a b}:rnd1' C P B h base K fr S H (some ⟨fid,fr0,ps,a,b,true,none⟩)=runC C P true B [] fr ⟨S,H.set h (.loop ⟨fid,fr0,ps,a,b,false,none⟩)⟩ (rnd2 h base K):=by
  simp [rnd1']
theorem rnd2_e {h base K e fr S H}:rnd2 h base K e fr ⟨S,H⟩=rnd2' h base K e S H (loopO H[h]?):=by
  unfold rnd2; rw [loopOf_eq]
theorem rnd2_norm {h base K S H fid fr0 ps a b r p}:rnd2' h base K .normal S H (some ⟨fid,fr0,ps,a,b,r,p⟩)=K (.bool true) ⟨S.take base,H.set h (.loop ⟨fid,fr0,ps,a,b,true,none⟩)⟩:=(rfl)
theorem rnd2_ret {h base K S H fid fr0 ps a b r p}:rnd2' h base K .ret S H (some ⟨fid,fr0,ps,a,b,r,p⟩)=K (.bool false) ⟨S.take base,H.set h (.loop ⟨fid,fr0,ps,a,b,false,some .ret⟩)⟩:=(rfl)
theorem rnd2_exit {h base K S H fid fr0 ps a b r p id}:rnd2' h base K (.exit id) S H (some ⟨fid,fr0,ps,a,b,r,p⟩)=K (.bool false) ⟨S.take base,H.set h (.loop ⟨fid,fr0,ps,a,b,false,some (.exit id)⟩)⟩:=(rfl)
def RoundOK (C:CallW) (P:Program) (f:FuncId) (azz bd:Code) (A B:LCode):Prop :=
  ∀(h:Nat) (fr0:Fr) (ps:List Tmp) (args:List AV) (S:List (List AV)) (H:List HObj) (K:AV→St→Prop),H[h]? = some (.loop ⟨f,fr0,ps,azz,bd,true,none⟩)→args.length=ps.length →
    runC C P true A [] (setAll ps (args.map AV.look) fr0) ⟨S,H⟩ (rnd1 C P B h S.length K)→C (.yield h) args ⟨S,H⟩ K
def rfE (C:CallW) (P:Program) (rd:Bool) (is:List Item) (K:KC) (fr:Fr) (n:Nat) (S:List (List AV)) (H:List HObj):Option LoopA→Prop
  | some l=>(l.ready || l.pending.isSome)=true∧contK C P rd is K (l.pending.getD .normal) fr ⟨S,H.set n .dead⟩
  | none=>False
def rfK (C:CallW) (P:Program) (rd:Bool) (is:List Item) (K:KC) (fr:Fr) (n:Nat):AV→St→Prop:=fun _ σ=>rfE C P rd is K fr n σ.stk σ.heap (loopO σ.heap[n]?)
theorem rfK_eq {is K fr n v S H}:rfK C P rd is K fr n v ⟨S,H⟩=rfE C P rd is K fr n S H (loopO H[n]?):=(rfl)
theorem rfE_norm {is K fr n S H fid fr0 ps a b}:rfE C P rd is K fr n S H (some ⟨fid,fr0,ps,a,b,true,none⟩)=nxt C P rd is fr ⟨S,H.set n .dead⟩ K:=by simp [rfE,nxt]
theorem rfE_ret {is K fr n S H fid fr0 ps a b r}:rfE C P rd is K fr n S H (some ⟨fid,fr0,ps,a,b,r,some .ret⟩)=rtn C P rd is fr ⟨S,H.set n .dead⟩ K:=by simp [rfE,rtn]
theorem rfE_exit {is K fr n S H fid fr0 ps a b r id}:rfE C P rd is K fr n S H (some ⟨fid,fr0,ps,a,b,r,some (.exit id)⟩)=ext C P rd id is fr ⟨S,H.set n .dead⟩ K:=by simp [rfE,ext]
def rfn (C:CallW) (P:Program) (rd:Bool) (f:FuncId) (ps:Array Tmp) (a b:Code) (is:List Item) (fr:Fr) (S:List (List AV)) (H:List HObj) (K:KC):AV→Prop
  | .fn (.func h) first captured=>hasBody P h=true∧C (.fn h) (first ++ [.yield H.length] ++ captured) ⟨S,H ++ [.loop ⟨f,fr.map lasting,ps.toList,a,b,true,none⟩]⟩ (rfK C P rd is K fr H.length)
  | _=>False
theorem runC_rfun {g f ps a b is fr S H K}:runC C P false (.rfun g f ps a b) is fr ⟨S,H⟩ K=rfn C P false f ps a b is fr S H K (seL fr g):=by
  show (false=false∧(match seL fr g with | .fn (.func h) first captured=>_ | _=>False))=_
  simp only [true_and]
  cases hs:seL fr g with
  | fn fn first captured =>
    cases fn with
    | func h =>
      show (_∧_)=(_∧_)
      refine congr (congrArg And rfl) ?_
      refine congrArg (C (.fn h) (first ++ [.yield H.length] ++ captured) ⟨S,H ++ [.loop ⟨f,fr.map lasting,ps.toList,a,b,true,none⟩]⟩) ?_
      funext v σ'
      show (match σ'.heap[H.length]? with | some (.loop l)=>_ | _=>False)=rfE C P false is K fr H.length σ'.stk σ'.heap (loopO σ'.heap[H.length]?)
      cases σ'.heap[H.length]? with
      | none=>rfl
      | some o=>cases o <;> rfl
    | _=>rfl
  | _=>rfl
theorem rfn_fn {f ps a b is fr S H K h first captured}:rfn C P rd f ps a b is fr S H K (.fn (.func h) first captured)=(hasBody P h=true∧C (.fn h) (first ++ [.yield H.length] ++ captured) ⟨S,H ++ [.loop ⟨f,fr.map lasting,ps.toList,a,b,true,none⟩]⟩ (rfK C P rd is K fr H.length)):=(rfl)
end
def rfsOf:Code→List (Code×Code)
  | .seq a b=>rfsOf a ++ rfsOf b
  | .cond _ a b=>rfsOf a ++ rfsOf b
  | .block _ b=>rfsOf b
  | .loop b=>rfsOf b
  | .rangeFunc _ _ a b=>[(a,b)]
  | _=>[]
def rfAt (P:Program) (f:FuncId) (i:Nat):Code×Code :=
  match P.funcs[f]? with
  | some fn=>match fn.body with
    | some c=>(rfsOf c).getD i (.skip,.skip)
    | none=>(.skip,.skip)
  | none=>(.skip,.skip)
theorem roundE {P:Program} {cfg:Cfg} {tr:Trees} {f:FuncId} {azz bd:Code} {A B:LCode} (t1:treesIn cfg tr f azz=true) (t2:treesIn cfg tr f bd=true) (hA:lowCode P cfg tr f 0 azz=A) (hB:lowCode P cfg tr f 0 bd=B):RoundOK (EvW P cfg tr) P f azz bd A B:=by
  intro h fr0 ps args S H K hl ha hr
  refine EvW.fold ?_
  show roundW (EvW P cfg tr) P cfg tr h args ⟨S,H⟩ K
  have hlo:loopOf ⟨S,H⟩ h=some ⟨f,fr0,ps,azz,bd,true,none⟩:=by rw [loopOf_eq,hl]; rfl
  unfold roundW
  rw [hlo]
  refine ⟨ha,t1,t2,?_⟩
  subst hA; subst hB
  refine codeW_mono EvW.le azz (fun e fr σ1 hk => ?_) (execL_ok EvW.le azz 0 _ _ _ hr)
  obtain ⟨he,hk⟩:=hk
  refine ⟨he,?_⟩
  unfold rnd1' at hk
  cases hl1:loopOf σ1 h with
  | none=>rw [hl1] at hk; exact hk.elim
  | some l1 =>
    rw [hl1] at hk
    obtain ⟨h1,h2,h3⟩:=hk
    refine ⟨h1,h2,?_⟩
    refine codeW_mono EvW.le bd (fun e fr σ2 hk => ?_) (execL_ok EvW.le bd 0 _ _ _ h3)
    unfold contK rnd2 rnd2' at hk
    cases hl2:loopOf σ2 h with
    | none=>rw [hl2] at hk; exact hk.elim
    | some l2=>rw [hl2] at hk; exact hk
end Go.AM
namespace Go.AM
open Go
structure Stp where
  t:Int
  n:UInt8
  deriving DecidableEq
def stc (s:Stp):List AV:=[.s (.int .i64 s.t),u8 s.n]
def sA (s:Stp):AV := .agg (stc s)
theorem stc_length (s:Stp):(stc s).length=2:=rfl
theorem stc_under {n:Nat} {s:Stp}:AV.under.go n (stc s)=true:=rfl
theorem sA_under {n:Nat} {s:Stp}:AV.under n (sA s)=true:=rfl
theorem look_stc (s:Stp):(stc s).map AV.look=stc s:=rfl
theorem fits_stc (s:Stp):fitsL [.int .i64,.int .u8] (stc s)=true:=rfl
theorem beq_stc (a b:Stp):AV.beq.go (stc a) (stc b)=decide (a=b):=by
  cases a; cases b
  simp only [stc,AV.beq.go,AV.beq,u8_inj,Bool.and_true,Sc.int.injEq,true_and,Stp.mk.injEq,Bool.decide_and]
theorem take_stc (s:Stp) (r:List AV):(stc s ++ r).take 2=stc s:=rfl
theorem drop_stc (s:Stp) (r:List AV):(stc s ++ r).drop 2=r:=rfl
theorem stc_get0 (s:Stp):(stc s)[0]? = some (.s (.int .i64 s.t)):=rfl
theorem stc_get1 (s:Stp):(stc s)[1]? = some (u8 s.n):=rfl
theorem u8_lt' {x y:UInt8}:((x.toNat:Int) < (y.toNat:Int))=(x < y):=by rw [UInt8.lt_iff_toNat_lt]; exact propext (by omega)
def cmpS (a b:Stp):Int:=if a.t < b.t then -1 else if b.t < a.t then 1 else if a.n < b.n then -1 else if b.n < a.n then 1 else 0
def goodS (a:Stp):Bool:=decide (0≤a.t) && decide (a.t≤36028797018963967)
def FnS (C:CallW) (f:FuncId) (args:List AV) (v:AV):Prop:=∀S H (K:AV→St→Prop),K v ⟨S,H⟩→C (.fn f) args ⟨S,H⟩ K
end Go.AM
namespace Go.AM
open Go
theorem K5_ :
  (((((type_of% @Go.AM.runC_rfun∧type_of% @Go.AM.rfn_fn)∧(type_of% @Go.AM.rfK_eq∧(type_of% @Go.AM.rfE_norm∧type_of% @Go.AM.rfE_ret)))∧((type_of% @Go.AM.rfE_exit∧type_of% @Go.AM.rnd1_n)∧(type_of% @Go.AM.rnd1_some∧(type_of% @Go.AM.rnd2_e∧type_of% @Go.AM.rnd2_norm))))∧(((type_of% @Go.AM.rnd2_ret∧type_of% @Go.AM.rnd2_exit)∧(type_of% @Go.AM.loopO_some∧(type_of% @Go.AM.setAll.eq_1∧type_of% @Go.AM.setAll.eq_2)))∧((type_of% @Go.AM.lasting.eq_1∧(type_of% @Go.AM.stc_length∧type_of% @Go.AM.stc_under))∧(type_of% @Go.AM.sA_under∧(type_of% @Go.AM.look_stc∧type_of% @Go.AM.fits_stc)))))∧((((type_of% @Go.AM.beq_stc∧type_of% @Go.AM.take_stc)∧(type_of% @Go.AM.drop_stc∧(type_of% @Go.AM.stc_get0∧type_of% @Go.AM.stc_get1)))∧((type_of% @Go.AM.LK.fits.eq_1∧type_of% @Go.AM.LK.fits.eq_2)∧(type_of% @Go.AM.LK.fits.eq_3∧(type_of% @Go.AM.LK.fits.eq_4∧type_of% @Go.AM.KK.fits.eq_1))))∧(((type_of% @Go.AM.KK.fits.eq_2∧type_of% @Go.AM.KK.fits.eq_3)∧(type_of% @Go.AM.u8_inj∧(type_of% @Go.AM.Sc.int.injEq∧type_of% @Go.AM.Sc.str.injEq)))∧((type_of% @Go.AM.Sc.bool.injEq∧(type_of% @Go.AM.wrap_i64∧type_of% @Bool.false_and))∧(type_of% @Bool.and_false∧(type_of% @Nat.not_lt_zero∧type_of% @Go.AM.beq_refl)))))) :=
  ⟨⟨⟨⟨⟨@Go.AM.runC_rfun,@Go.AM.rfn_fn⟩,⟨@Go.AM.rfK_eq,⟨@Go.AM.rfE_norm,@Go.AM.rfE_ret⟩⟩⟩,⟨⟨@Go.AM.rfE_exit,@Go.AM.rnd1_n⟩,⟨@Go.AM.rnd1_some,⟨@Go.AM.rnd2_e,@Go.AM.rnd2_norm⟩⟩⟩⟩,⟨⟨⟨@Go.AM.rnd2_ret,@Go.AM.rnd2_exit⟩,⟨@Go.AM.loopO_some,⟨@Go.AM.setAll.eq_1,@Go.AM.setAll.eq_2⟩⟩⟩,⟨⟨@Go.AM.lasting.eq_1,⟨@Go.AM.stc_length,@Go.AM.stc_under⟩⟩,⟨@Go.AM.sA_under,⟨@Go.AM.look_stc,@Go.AM.fits_stc⟩⟩⟩⟩⟩,⟨⟨⟨⟨@Go.AM.beq_stc,@Go.AM.take_stc⟩,⟨@Go.AM.drop_stc,⟨@Go.AM.stc_get0,@Go.AM.stc_get1⟩⟩⟩,⟨⟨@Go.AM.LK.fits.eq_1,@Go.AM.LK.fits.eq_2⟩,⟨@Go.AM.LK.fits.eq_3,⟨@Go.AM.LK.fits.eq_4,@Go.AM.KK.fits.eq_1⟩⟩⟩⟩,⟨⟨⟨@Go.AM.KK.fits.eq_2,@Go.AM.KK.fits.eq_3⟩,⟨@Go.AM.u8_inj,⟨@Go.AM.Sc.int.injEq,@Go.AM.Sc.str.injEq⟩⟩⟩,⟨⟨@Go.AM.Sc.bool.injEq,⟨@Go.AM.wrap_i64,@Bool.false_and⟩⟩,⟨@Bool.and_false,⟨@Nat.not_lt_zero,@Go.AM.beq_refl⟩⟩⟩⟩⟩⟩
end Go.AM
namespace Go.AM
open Go
structure Tx where
  id:Int
  snap:Stp
  stamp:Stp
  done:Bool
  reads:List Wr
  writes:List Wr
def txc (x:Tx):List AV:=[.s (.int .i64 x.id),.s (.int .i64 x.snap.t),u8 x.snap.n,.s (.int .i64 x.stamp.t),u8 x.stamp.n,.s (.bool x.done),.list .sh 18 (x.reads.map wA),.list .sh 18 (x.writes.map wA)]
def txA (x:Tx):AV := .agg (txc x)
theorem ixl_t {l:List Tx} {i c:Nat} {k:IntKind} (h:i < l.length) (hc:c≠0):indexAddrL (.sl c) (.list .sh c (l.map txA)) (.s (.int k (i:Int)))=some (.rop (txc l[i])):=ixl_map h hc
theorem under_yield {n h:Nat}:AV.under n (.yield h)=true:=rfl
def hcells:HObj→List AV
  | .cells cs=>cs
  | _=>[]
theorem storeL_heap {S:List (List AV)} {H l:List HObj} {j n:Nat} {vs:List AV} (hj:j < l.length) (h:(hcells (l.getD j .dead)).length=n) (hv:vs.length=n) (hn:2≤n) (hu:AV.under.go 0 vs=true):storeL n (.ptr (.heap (H.length + j)) 0) (.agg vs) ⟨S,H ++ l⟩=some ⟨S,H ++ l.set j (.cells vs)⟩:=by
  have e:l[j]? = some (l.getD j .dead):=by simp [List.getD,hj]
  cases hb:l.getD j .dead with
  | cells cs =>
    rw [hb] at h e
    have h:cs.length=n:=h
    have hs:splice cs 0 vs=vs:=by
      unfold splice
      split
      · simp at hv; omega
      · rw [List.take_zero,List.nil_append,Nat.zero_add,hv,List.drop_of_length_le (Nat.le_of_eq h),List.append_nil]
    have h':cs.length=n:=h
    simp only [storeL,AV.cells,AV.fit,hv,writeCells,boxOf_heap,app_get,e,cellsOf?,Option.bind_some,hs,setBox_heap,app_set,mayHold,hu,h',Nat.zero_add,Nat.le_refl,decide_true,Bool.and_self,if_true,true_and]
    rw [if_pos (by simp; omega)]
  | _=>rw [hb] at h; simp [hcells] at h; omega
theorem storeL_heap0 {S:List (List AV)} {H l:List HObj} {n:Nat} {vs:List AV} (hj:0 < l.length) (h:(hcells (l.getD 0 .dead)).length=n) (hv:vs.length=n) (hn:2≤n) (hu:AV.under.go 0 vs=true):storeL n (.ptr (.heap H.length) 0) (.agg vs) ⟨S,H ++ l⟩=some ⟨S,H ++ l.set 0 (.cells vs)⟩:=storeL_heap (j:=0) hj h hv hn hu
theorem storeS_heap {S:List (List AV)} {H l:List HObj} {j off:Nat} {x:Sc} (hj:j < l.length) (h:off < (hcells (l.getD j .dead)).length):storeL 1 (.ptr (.heap (H.length + j)) off) (.s x) ⟨S,H ++ l⟩=some ⟨S,H ++ l.set j (.cells ((hcells (l.getD j .dead)).set off (.s x)))⟩:=by
  have e:l[j]? = some (l.getD j .dead):=by simp [List.getD,hj]
  cases hb:l.getD j .dead with
  | cells cs =>
    rw [hb] at h e
    have h1:off + 1≤cs.length:=h
    simp only [storeL,AV.cells,AV.fit,List.length_cons,List.length_nil,writeCells,boxOf_heap,app_get,e,cellsOf?,Option.bind_some,splice,setBox_heap,app_set,mayHold,AV.under.go,AV.under,Nat.zero_add,h1,decide_true,Bool.and_self,if_true,true_and,and_self,hcells]
    rw [if_pos (by simp)]
  | _=>rw [hb] at h; simp [hcells] at h
theorem storeS_heap0 {S:List (List AV)} {H l:List HObj} {off:Nat} {x:Sc} (hj:0 < l.length) (h:off < (hcells (l.getD 0 .dead)).length):storeL 1 (.ptr (.heap H.length) off) (.s x) ⟨S,H ++ l⟩=some ⟨S,H ++ l.set 0 (.cells ((hcells (l.getD 0 .dead)).set off (.s x)))⟩:=storeS_heap (j:=0) hj h
theorem readA_heap' {S:List (List AV)} {H l:List HObj} {j n off:Nat} (hj:j < l.length) (h:off + n≤(hcells (l.getD j .dead)).length) (hn:0 < n) (hn1:n≠1):readA ⟨S,H ++ l⟩ (.ptr (.heap (H.length + j)) off) n=some (.agg ((((hcells (l.getD j .dead)).drop off).take n).map AV.look)):=by
  have e:l[j]? = some (l.getD j .dead):=by simp [List.getD,hj]
  cases hb:l.getD j .dead with
  | cells cs =>
    rw [hb] at h e
    have h':off + n≤cs.length:=h
    simp only [readA,readCells,boxOf_heap,app_get,e,cellsOf?,Option.bind_some,if_pos (And.intro h' (Or.inl hn1)),Option.map_some,hcells]
  | _=>rw [hb] at h; simp [hcells] at h; omega
theorem readA_heap0 {S:List (List AV)} {H l:List HObj} {n off:Nat} (hj:0 < l.length) (h:off + n≤(hcells (l.getD 0 .dead)).length) (hn:0 < n) (hn1:n≠1):readA ⟨S,H ++ l⟩ (.ptr (.heap H.length) off) n=some (.agg ((((hcells (l.getD 0 .dead)).drop off).take n).map AV.look)):=readA_heap' (j:=0) hj h hn hn1
theorem wc_get16 (w:Wr):(wc w)[16]? = some (.s (.str w.val)):=get_kc16 w.key [.s (.str w.val),.s (.bool w.gone)]
theorem wc_get17 (w:Wr):(wc w)[17]? = some (.s (.bool w.gone)):=get_kc17 w.key [.s (.str w.val),.s (.bool w.gone)]
theorem fits_u8b {b:UInt8}:(LK.int .u8).fits (u8 b)=true:=rfl
theorem wA_eq (w:Wr):wA w = .agg (wc w):=rfl
end Go.AM
namespace Go.AM
open Go
theorem K6_ :
  ((((type_of% @Go.AM.ixl_t∧type_of% @Go.AM.txc.eq_1)∧(type_of% @Go.AM.under_yield∧type_of% @Go.AM.hcells.eq_1))∧((type_of% @Go.AM.hcells.eq_2∧type_of% @Go.AM.storeL_heap)∧(type_of% @Go.AM.storeL_heap0∧type_of% @Go.AM.storeS_heap)))∧(((type_of% @Go.AM.storeS_heap0∧type_of% @Go.AM.readA_heap')∧(type_of% @Go.AM.readA_heap0∧type_of% @Go.AM.wA_eq))∧((type_of% @Go.AM.wc_get16∧type_of% @Go.AM.wc_get17)∧(type_of% @Go.AM.fillL.eq_1∧(type_of% @Go.AM.fillL.eq_2∧type_of% @Go.AM.fits_u8b))))) :=
  ⟨⟨⟨⟨@Go.AM.ixl_t,@Go.AM.txc.eq_1⟩,⟨@Go.AM.under_yield,@Go.AM.hcells.eq_1⟩⟩,⟨⟨@Go.AM.hcells.eq_2,@Go.AM.storeL_heap⟩,⟨@Go.AM.storeL_heap0,@Go.AM.storeS_heap⟩⟩⟩,⟨⟨⟨@Go.AM.storeS_heap0,@Go.AM.readA_heap'⟩,⟨@Go.AM.readA_heap0,@Go.AM.wA_eq⟩⟩,⟨⟨@Go.AM.wc_get16,@Go.AM.wc_get17⟩,⟨@Go.AM.fillL.eq_1,⟨@Go.AM.fillL.eq_2,@Go.AM.fits_u8b⟩⟩⟩⟩⟩
end Go.AM
namespace Go.AM
open Go
theorem slc_hi {c n:Nat} {es:List AV} {k:IntKind} (h:n≤es.length):sliceL (.sl c) (.list .sh c es) none (some (.s (.int k (n:Int)))) none=some (.list .sh c (es.take n)):=by
  have h0:(0:Int)≤n:=by omega
  simp only [sliceL,bound,h0,if_true,Int.toNat_natCast,reduceCtorEq,if_false,Nat.zero_le,h,and_self,List.drop_zero,false_and]
theorem slc_lo {c n:Nat} {es:List AV} {k:IntKind} (h:n≤es.length):sliceL (.sl c) (.list .sh c es) (some (.s (.int k (n:Int)))) none none=some (.list .sh c (es.drop n)):=by
  have h0:(0:Int)≤n:=by omega
  simp only [sliceL,bound,h0,if_true,Int.toNat_natCast,reduceCtorEq,if_false,h,Nat.le_refl,and_self,false_and,List.take_length]
theorem slc_both {c m n:Nat} {es:List AV} {k k':IntKind} (hm:m≤n) (h:n≤es.length):sliceL (.sl c) (.list .sh c es) (some (.s (.int k (m:Int)))) (some (.s (.int k' (n:Int)))) none=some (.list .sh c ((es.take n).drop m)):=by
  have h0:(0:Int)≤n:=by omega
  have h1:(0:Int)≤m:=by omega
  simp only [sliceL,bound,h0,h1,if_true,Int.toNat_natCast,reduceCtorEq,if_false,hm,h,and_self,false_and]
def Own1 (fl:Fl) (es:List AV):Prop:=fl = .uniq∨fl = .full∧es=[]
theorem Own1.wk {fl:Fl} {c:Nat} {es:List AV} (h:Own1 fl es) {azz bs:List AV} (t:WkF azz bs):WkF (.list fl c es :: azz) (.list .sh c es :: bs):=by
  rcases h with rfl | ⟨rfl,rfl⟩
  · exact .uniq t
  · exact .full t
def slG (c:Nat) (es:List AV):AV:=if es=[] then .s .nilS else .list .uniq c es
theorem slG_nil {c:Nat}:slG c [] = .s .nilS:=rfl
theorem slG_under {n c:Nat} {es:List AV}:AV.under n (slG c es)=true:=by unfold slG; split <;> rfl
theorem app_slG {e:ET} {es:List AV} {a:AV} {σ:St} (hu:AV.under 0 a=true) (hb:2 * (es.length + 1) * e.bytes≤2 ^ 48):appendL e false (slG e.c es) (.list .full e.c [a]) σ=some (slG e.c (es ++ [a]),σ):=by
  have he:elemsL e (.list .full e.c [a]) σ=some [a]:=by simp [elemsL]
  have h1:1 * e.bytes≤2 ^ 48:=Nat.le_trans (Nat.mul_le_mul_right _ (by omega)) hb
  have hg:AV.under.go 0 [a]=true:=by simp [AV.under.go,hu]
  unfold appendL
  simp only [srcL,AV.isSlice,if_true,he,Option.bind_some,hg]
  unfold slG
  by_cases h:es=[]
  · subst h
    simp [appItems] at h1 ⊢
    omega
  · rw [if_neg h]
    simp only [appItems,ne_eq,not_true_eq_false,if_false,List.isEmpty_cons,Bool.false_eq_true,List.length_cons,List.length_nil,Nat.zero_add,hb,if_true]
    simp
theorem drop_kc17 {k:Key} {a:AV} {r:List AV}:(bs k.b ++ a :: r).drop 17=r:=by rw [show bs k.b ++ a :: r=(bs k.b ++ [a]) ++ r by simp,List.drop_left' (by simp [kc_length])]
theorem take_kc17 {k:Key} {a:AV} {r:List AV}:(bs k.b ++ a :: r).take 17=bs k.b ++ [a]:=by rw [show bs k.b ++ a :: r=(bs k.b ++ [a]) ++ r by simp,List.take_left' (by simp [kc_length])]
theorem drop_kc18 {k:Key} {a b:AV} {r:List AV}:(bs k.b ++ a :: b :: r).drop 18=r:=by rw [show bs k.b ++ a :: b :: r=(bs k.b ++ [a,b]) ++ r by simp,List.drop_left' (by simp [kc_length])]
theorem take_kc18 {k:Key} {a b:AV} {r:List AV}:(bs k.b ++ a :: b :: r).take 18=bs k.b ++ [a,b]:=by rw [show bs k.b ++ a :: b :: r=(bs k.b ++ [a,b]) ++ r by simp,List.take_left' (by simp [kc_length])]
end Go.AM
namespace Go.AM
open Go
theorem K7_ :
  (((type_of% @Go.AM.slc_hi∧type_of% @Go.AM.slc_lo)∧(type_of% @Go.AM.slc_both∧type_of% @Go.AM.slG_nil))∧((type_of% @Go.AM.slG_under∧type_of% @Go.AM.drop_kc17)∧(type_of% @Go.AM.take_kc17∧(type_of% @Go.AM.drop_kc18∧type_of% @Go.AM.take_kc18)))) :=
  ⟨⟨⟨@Go.AM.slc_hi,@Go.AM.slc_lo⟩,⟨@Go.AM.slc_both,@Go.AM.slG_nil⟩⟩,⟨⟨@Go.AM.slG_under,@Go.AM.drop_kc17⟩,⟨@Go.AM.take_kc17,⟨@Go.AM.drop_kc18,@Go.AM.take_kc18⟩⟩⟩⟩
theorem A_:type_of% RUN_∧type_of% FR_∧type_of% OPK_∧type_of% KEY_∧type_of% WR_∧type_of% CHK_∧type_of% K4_∧type_of% K5_∧type_of% K6_∧type_of% K7_∧type_of% @e_stu∧type_of% @t_stu:=⟨RUN_,FR_,OPK_,KEY_,WR_,CHK_,K4_,K5_,K6_,K7_,@e_stu,@t_stu⟩
end Go.AM
namespace Go.AM
open Go
set_option maxRecDepth 20000
def y4as1:LCode:=(.seq (.sq [(zs 3 (.shift 0 (.t 1))),(zs 4 (.load1 false (.t 3))),(zs 5 (.bin .geq .sc (.t 4) (zi 0))),(zv 6 5),(zt 7 6 (.shift 0 (.t 1))),(zt 8 6 (.load1 false (.t 7))),(zt 9 6 (.bin .leq .sc (.t 8) (zi 36028797018963967))),(zs 10 (.pick (.t 6) (.t 9) zF)),(zs 2 (.mv true (.t 10)))]) .ret)
def Uz2n:=PLift.up (@unfC _ _ (y4as1.eq_1))
def Cz1q:LFn:=⟨11,[.t 2],(.seq (.sq [(zs 1 (.box false false (.t 0))),(zs 2 (.mv true zF))]) y4as1)⟩
def y4az1 (c:Nat→FuncId):LCode:=(.sq [(zv 38 3),(zs 39 (.shift 0 (.t 5))),(zs 40 (.loadA 16 (.t 39))),(zn (.upd (.leaf lk) (.t 38) (.t 40) zT))])
def y4az2 (c:Nat→FuncId):LCode:=(.seq (.seq (.sq [(zs 13 (.shift 0 (.t 5))),(zs 14 (.loadA 16 (.t 13))),(zs 15 (.call (.f (c 0)) [(.t 14)])),(zs 16 (.un .not (.t 15))),(zv 17 16),(zf 18 17 (.mv false (.t 3))),(zf 19 17 (.shift 0 (.t 5))),(zf 20 17 (.loadA 16 (.t 19))),(zf 21 17 (.look (.leaf lk) (.s (.bool false)) false (.t 18) (.t 20))),(zs 22 (.pick (.t 17) zT (.t 21))),(zv 23 22),(zf 24 23 (.shift 16 (.t 5))),(zf 25 23 (.load1 false (.t 24))),(zf 26 23 (.len .str (.t 25))),(zf 27 23 (.bin .gtr .sc (.t 26) (zi 200))),(zs 28 (.pick (.t 23) zT (.t 27))),(zv 29 28),(zf 30 29 (.shift 17 (.t 5))),(zf 31 29 (.load1 false (.t 30))),(zf 32 29 (.mv false (.t 31))),(zt 33 32 (.shift 16 (.t 5))),(zt 34 32 (.load1 false (.t 33))),(zt 35 32 (.bin .neq .sc (.t 34) (.c (.str [])))),(zf 36 29 (.pick (.t 32) (.t 35) zF)),(zs 37 (.pick (.t 29) zT (.t 36)))]) (.cond (.t 37) (.seq (.sq [(zs 2 (.mv true zF))]) .ret) .skip)) (y4az1 c))
def y4az3 (c:Nat→FuncId):LCode:=(.seq (.block 1 (.seq (.sq [(zs 11 (.ixa (.sl 18) (.t 7) (.t 9))),(zs 12 (.loadA 18 (.t 11))),(zs 5 (.alloc false (zk ++ [(.s (.str [])),(.s (.bool false))]))),(zn (.store 18 (.t 5) (.t 12)))]) (y4az2 c))) (.sq [(zs 41 (.bin .add .sc (.t 9) (zi 1))),(zv 9 41)]))
def y4az4 (c:Nat→FuncId):LCode:=(.block 0 (.loop (zm false [3,1,3,3,32]) (.seq (.sq [(zs 10 (.bin .lss .sc (.t 9) (.t 8)))]) (.seq (.cond (.t 10) .skip (.exit 0)) (y4az3 c)))))
def y4az5 (c:Nat→FuncId):LCode:=(.seq (.seq (.sq [(zv 7 0),(zs 8 (.len .sl (.t 7))),(zs 9 (.mv false (zi 0)))]) (y4az4 c)) (.seq (.sq [(zs 2 (.mv true zT))]) .ret))
def Uzr (c:Nat→FuncId):=PLift.up (zc (zc (@unfC _ _ (y4az1.eq_1 c)) (@unfC _ _ (y4az2.eq_1 c))) (zc (@unfC _ _ (y4az3.eq_1 c)) (zc (@unfC _ _ (y4az4.eq_1 c)) (@unfC _ _ (y4az5.eq_1 c)))))
def Cz2o (c:Nat→FuncId):LFn:=⟨42,[.t 2],(.seq (.sq [(zs 2 (.mv true zF))]) (.seq (.sq [(zs 6 (.mkmap none)),(zs 3 (.mv true (.t 6)))]) (y4az5 c)))⟩
def y4bn1:LCode:=(.seq (.sq [(zv 3 0),(zs 4 (.len .sl (.t 3))),(zs 5 (.bin .geq .sc (.t 4) (zi 1))),(zv 6 5),(zt 7 6 (.mv false (.t 0))),(zt 8 6 (.len .sl (.t 7))),(zt 9 6 (.bin .leq .sc (.t 8) (zi 16))),(zs 10 (.pick (.t 6) (.t 9) zF)),(zs 2 (.mv true (.t 10)))]) .ret)
def Uz2p:=PLift.up (@unfC _ _ (y4bn1.eq_1))
def Cz1r:LFn:=⟨11,[.t 2],(.seq (.sq [(zs 2 (.mv true zF))]) y4bn1)⟩
end Go.AM
namespace Go.AM
open Go
set_option maxRecDepth 20000
def BA (a:AV) (b:List UInt8):Prop:=(∃fl,a = .list fl 1 (bs b))∨a = .s .nilS∧b=[]
theorem BA.wk {a:AV} {b:List UInt8} (h:BA a b) {azz cs:List AV} (t:WkF azz cs):WkF (a :: azz) (.list .sh 1 (bs b) :: cs):=by
  rcases h with ⟨fl,rfl⟩ | ⟨rfl,rfl⟩
  · cases fl <;> first | exact .same t | exact .wk (.same .nil) t | exact .wk (.full .nil) t | exact .uniq t | exact .full t
  · exact .nilS (by omega) t
theorem BA.l {fl:Fl} {b:List UInt8}:BA (.list fl 1 (bs b)) b := .inl ⟨fl,rfl⟩
theorem BA.n:BA (.s .nilS) [] := .inr ⟨rfl,rfl⟩
end Go.AM
namespace Go.AM
open Go
set_option maxRecDepth 20000
end Go.AM
namespace Go.AM
open Go
set_option maxRecDepth 20000
def y2a1:LCode:=(.seq (.sq [(zv 3 0),(zv 4 0),(zs 5 (.bin .neq .sc (.t 3) (.t 4))),(zs 2 (.mv true (.t 5)))]) .ret)
def Uz36:=PLift.up (@unfC _ _ (y2a1.eq_1))
def Cz1m:LFn:=⟨6,[.t 2],(.seq (.sq [(zs 2 (.mv true zF))]) y2a1)⟩
def y2b1:LCode:=(.seq (.sq [(zv 3 0),(zv 4 0),(zs 5 (.bin .neq .sc (.t 3) (.t 4))),(zs 2 (.mv true (.t 5)))]) .ret)
def Uz37:=PLift.up (@unfC _ _ (y2b1.eq_1))
def Cz1n:LFn:=⟨6,[.t 2],(.seq (.sq [(zs 2 (.mv true zF))]) y2b1)⟩
def y2c1 (c:Nat→FuncId):LCode:=(.seq (.seq (.sq [(zv 12 6)]) (.cond (.t 12) (.seq (.sq [(zs 4 (.mv true (zi 0)))]) .ret) .skip)) (.seq (.sq [(zs 4 (.mv true (.c (.int .i64 (-1)))))]) .ret))
def y2c2 (c:Nat→FuncId):LCode:=(.seq (.seq (.sq [(zv 17 0),(zv 18 1),(zs 19 (.bin .gtr .sc (.t 17) (.t 18)))]) (.cond (.t 19) (.seq (.sq [(zs 4 (.mv true (zi 1)))]) .ret) .skip)) (.seq (.sq [(zs 4 (.mv true (zi 0)))]) .ret))
def y2c3 (c:Nat→FuncId):LCode:=(.seq (.seq (.sq [(zv 14 0),(zv 15 1),(zs 16 (.bin .lss .sc (.t 14) (.t 15)))]) (.cond (.t 16) (.seq (.sq [(zs 4 (.mv true (.c (.int .i64 (-1)))))]) .ret) .skip)) (y2c2 c))
def y2c4 (c:Nat→FuncId):LCode:=(.seq (.seq (.sq [(zv 13 6)]) (.cond (.t 13) (.seq (.sq [(zs 4 (.mv true (zi 1)))]) .ret) .skip)) (y2c3 c))
def y2c5 (c:Nat→FuncId):LCode:=(.seq (.seq (.sq [(zv 11 5)]) (.cond (.t 11) (y2c1 c) .skip)) (y2c4 c))
def y2c6 (c:Nat→FuncId):LCode:=(.seq (.sq [(zv 9 1),(zs 10 (.call (.f (c 0)) [(.t 9)])),(zs 6 (.mv true (.t 10)))]) (y2c5 c))
def y2c7 (c:Nat→FuncId):LCode:=(.seq (.sq [(zv 7 0),(zs 8 (.call (.f (c 0)) [(.t 7)])),(zs 5 (.mv true (.t 8)))]) (y2c6 c))
def Uzs (c:Nat→FuncId):=PLift.up (zc (zc (@unfC _ _ (y2c1.eq_1 c)) (zc (@unfC _ _ (y2c2.eq_1 c)) (@unfC _ _ (y2c3.eq_1 c)))) (zc (zc (@unfC _ _ (y2c4.eq_1 c)) (@unfC _ _ (y2c5.eq_1 c))) (zc (@unfC _ _ (y2c6.eq_1 c)) (@unfC _ _ (y2c7.eq_1 c)))))
def Cz1e (c:Nat→FuncId):LFn:=⟨20,[.t 4],(.seq (.sq [(zs 4 (.mv true (zi 0)))]) (y2c7 c))⟩
def y2d1 (c:Nat→FuncId):LCode:=(.seq (.seq (.sq [(zv 12 6)]) (.cond (.t 12) (.seq (.sq [(zs 4 (.mv true (zi 0)))]) .ret) .skip)) (.seq (.sq [(zs 4 (.mv true (.c (.int .i64 (-1)))))]) .ret))
def y2d2 (c:Nat→FuncId):LCode:=(.seq (.seq (.sq [(zv 17 0),(zv 18 1),(zs 19 (.bin .gtr .sc (.t 17) (.t 18)))]) (.cond (.t 19) (.seq (.sq [(zs 4 (.mv true (zi 1)))]) .ret) .skip)) (.seq (.sq [(zs 4 (.mv true (zi 0)))]) .ret))
def y2d3 (c:Nat→FuncId):LCode:=(.seq (.seq (.sq [(zv 14 0),(zv 15 1),(zs 16 (.bin .lss .sc (.t 14) (.t 15)))]) (.cond (.t 16) (.seq (.sq [(zs 4 (.mv true (.c (.int .i64 (-1)))))]) .ret) .skip)) (y2d2 c))
def y2d4 (c:Nat→FuncId):LCode:=(.seq (.seq (.sq [(zv 13 6)]) (.cond (.t 13) (.seq (.sq [(zs 4 (.mv true (zi 1)))]) .ret) .skip)) (y2d3 c))
def y2d5 (c:Nat→FuncId):LCode:=(.seq (.seq (.sq [(zv 11 5)]) (.cond (.t 11) (y2d1 c) .skip)) (y2d4 c))
def y2d6 (c:Nat→FuncId):LCode:=(.seq (.sq [(zv 9 1),(zs 10 (.call (.f (c 0)) [(.t 9)])),(zs 6 (.mv true (.t 10)))]) (y2d5 c))
def y2d7 (c:Nat→FuncId):LCode:=(.seq (.sq [(zv 7 0),(zs 8 (.call (.f (c 0)) [(.t 7)])),(zs 5 (.mv true (.t 8)))]) (y2d6 c))
def Uzt (c:Nat→FuncId):=PLift.up (zc (zc (@unfC _ _ (y2d1.eq_1 c)) (zc (@unfC _ _ (y2d2.eq_1 c)) (@unfC _ _ (y2d3.eq_1 c)))) (zc (zc (@unfC _ _ (y2d4.eq_1 c)) (@unfC _ _ (y2d5.eq_1 c))) (zc (@unfC _ _ (y2d6.eq_1 c)) (@unfC _ _ (y2d7.eq_1 c)))))
def Cz1f (c:Nat→FuncId):LFn:=⟨20,[.t 4],(.seq (.sq [(zs 4 (.mv true (zi 0)))]) (y2d7 c))⟩
def y2e1:LCode:=(.cond (.t 14) (.seq (.sq [(zv 15 5),(zs 2 (.mv true (.t 15)))]) .ret) .skip)
def y2e2:LCode:=(.seq (.sq [(zv 12 5),(zv 13 3),(zs 14 (.bin .neq .sc (.t 12) (.t 13)))]) y2e1)
def y2e3:LCode:=(.seq (.block 1 (.seq (.sq [(zs 10 (.ixa (.sl 1) (.t 6) (.t 8))),(zs 11 (.load1 false (.t 10))),(zs 5 (.mv true (.t 11)))]) y2e2)) (.sq [(zs 16 (.bin .add .sc (.t 8) (zi 1))),(zv 8 16)]))
def y2e4:LCode:=(.block 0 (.loop [false,false,false,true,false,false,true,true,true,false,false,false,false,false,false,false,false,false] (.seq (.sq [(zs 9 (.bin .lss .sc (.t 8) (.t 7)))]) (.seq (.cond (.t 9) .skip (.exit 0)) y2e3))))
def y2e5:LCode:=(.seq (.seq (.sq [(zv 6 0),(zs 7 (.len .sl (.t 6))),(zs 8 (.mv false (zi 0)))]) y2e4) (.seq (.sq [(zv 17 3),(zs 2 (.mv true (.t 17)))]) .ret))
def Uz1d:=PLift.up (zc (zc (@unfC _ _ (y2e1.eq_1)) (@unfC _ _ (y2e2.eq_1))) (zc (@unfC _ _ (y2e3.eq_1)) (zc (@unfC _ _ (y2e4.eq_1)) (@unfC _ _ (y2e5.eq_1)))))
def Cz2q:LFn:=⟨18,[.t 2],(.seq (.sq [(zs 2 (.mv true (zi 0)))]) (.seq (.sq [(zs 3 (.mv true (zi 0)))]) y2e5))⟩
def y2f1 (c:Nat→FuncId):LCode:=(.seq (.tree (.rd (zs 5 (.shift 0 (.t 2))) 0 false (.rd (zs 6 (.load1 false (.t 5))) 1 false (.rd (zs 7 (.shift 0 (.t 3))) 2 false (.rd (zs 8 (.load1 false (.t 7))) 3 false (.rd (zs 10 (.shift 1 (.t 2))) 5 true (.rd (zs 11 (.load1 false (.t 10))) 6 true (.rd (zs 12 (.shift 1 (.t 3))) 7 true (.rd (zs 13 (.load1 false (.t 12))) 8 true (.mv (zs 9 (.call (.f (c 0)) [(.t 6),(.t 8)])) [0,1,2,3] (.mv (zs 14 (.call (.f (c 1)) [(.t 11),(.t 13)])) [0,1,2,3,4,5,6,7,8] (.rd (zs 15 (.bsl ⟨1,false,8,(.s (.int .i64 0))⟩ 2 [(0,(.t 9)),(1,(.t 14))])) 10 false (.mv (zs 16 (.call (.f (c 2)) [(.t 15)])) [0,1,2,3,4,5,6,7,8,9,10] (.mv (zs 4 (.mv true (.t 16))) [0,1,2,3,4,5,6,7,8,9,10,11] .done .stop) .stop)) .stop) .stop)))))))))) .ret)
def Uz28 (c:Nat→FuncId):=PLift.up (@unfC _ _ (y2f1.eq_1 c))
def Cz2x (c:Nat→FuncId):LFn:=⟨17,[.t 4],(.seq (.sq [(zs 2 (.box false false (.t 0))),(zs 3 (.box false false (.t 1))),(zs 4 (.mv true (zi 0)))]) (y2f1 c))⟩
end Go.AM
namespace Go.AM
open Go
set_option maxRecDepth 20000
theorem isNaN_spec {C:CallW} (P:Program) (x:Int):∀S H (K:AV→St→Prop),K (.bool false) ⟨S,H⟩→runL C P Cz1m [.s (.int .i64 x)] ⟨S,H⟩ K:=by
  intro S H K hK
  simp only [Cz1m,RUN_,Uz36.1,FR_,simprocAttr,if_true,if_false,ite_true,ite_false,ne_eq,eq_self,OPK_,KEY_]
  exact hK
theorem isNaN8_spec {C:CallW} (P:Program) (x:UInt8):∀S H (K:AV→St→Prop),K (.bool false) ⟨S,H⟩→runL C P Cz1n [u8 x] ⟨S,H⟩ K:=by
  intro S H K hK
  simp only [u8,Cz1n,RUN_,Uz37.1,FR_,simprocAttr,if_true,if_false,ite_true,ite_false,ne_eq,eq_self,OPK_,KEY_]
  exact hK
def cmpI (x y:Int):Int:=if x < y then -1 else if y < x then 1 else 0
def cmpU (x y:UInt8):Int:=if x < y then -1 else if y < x then 1 else 0
theorem Compare_spec {C:CallW} (P:Program) {c:Nat→FuncId} (h:∀x:Int,FnS C (c 0) [.s (.int .i64 x)] (.bool false)) (x y:Int):∀S H (K:AV→St→Prop),K (.i (cmpI x y)) ⟨S,H⟩→runL C P (Cz1e c) [.s (.int .i64 x),.s (.int .i64 y)] ⟨S,H⟩ K:=by
  intro S H K hK
  simp only [Cz1e,RUN_,(Uzs _).1,FR_,simprocAttr,if_true,if_false,ite_true,ite_false,ne_eq,eq_self,OPK_,KEY_]
  refine h _ _ _ _ ?_
  simp only [RUN_,(Uzs _).1,FR_,simprocAttr,if_true,if_false,ite_true,ite_false,ne_eq,eq_self,OPK_,KEY_]
  refine h _ _ _ _ ?_
  unfold cmpI at hK
  by_cases h1:x < y
  · rw [if_pos h1] at hK
    simp only [RUN_,(Uzs _).1,FR_,simprocAttr,if_true,if_false,ite_true,ite_false,ne_eq,eq_self,OPK_,KEY_,h1]
    exact hK
  · rw [if_neg h1] at hK
    by_cases h2:y < x
    · rw [if_pos h2] at hK
      simp only [RUN_,(Uzs _).1,FR_,simprocAttr,if_true,if_false,ite_true,ite_false,ne_eq,eq_self,OPK_,KEY_,h1,h2]
      exact hK
    · rw [if_neg h2] at hK
      simp only [RUN_,(Uzs _).1,FR_,simprocAttr,if_true,if_false,ite_true,ite_false,ne_eq,eq_self,OPK_,KEY_,h1,h2]
      exact hK
theorem Compare8_spec {C:CallW} (P:Program) {c:Nat→FuncId} (h:∀x:UInt8,FnS C (c 0) [u8 x] (.bool false)) (x y:UInt8):∀S H (K:AV→St→Prop),K (.i (cmpU x y)) ⟨S,H⟩→runL C P (Cz1f c) [u8 x,u8 y] ⟨S,H⟩ K:=by
  intro S H K hK
  have h':∀(x:UInt8) S H (K:AV→St→Prop),K (.bool false) ⟨S,H⟩→C (.fn (c 0)) [.s (.int .u8 x.toNat)] ⟨S,H⟩ K:=h
  simp only [u8,Cz1f,RUN_,(Uzt _).1,FR_,simprocAttr,if_true,if_false,ite_true,ite_false,ne_eq,eq_self,OPK_,KEY_]
  refine h' _ _ _ _ ?_
  simp only [RUN_,(Uzt _).1,FR_,simprocAttr,if_true,if_false,ite_true,ite_false,ne_eq,eq_self,OPK_,KEY_]
  refine h' _ _ _ _ ?_
  unfold cmpU at hK
  by_cases h1:x < y
  · rw [if_pos h1] at hK
    simp only [RUN_,(Uzt _).1,FR_,simprocAttr,if_true,if_false,ite_true,ite_false,ne_eq,eq_self,OPK_,KEY_,u8_lt',h1]
    exact hK
  · rw [if_neg h1] at hK
    by_cases h2:y < x
    · rw [if_pos h2] at hK
      simp only [RUN_,(Uzt _).1,FR_,simprocAttr,if_true,if_false,ite_true,ite_false,ne_eq,eq_self,OPK_,KEY_,u8_lt',h1,h2]
      exact hK
    · rw [if_neg h2] at hK
      simp only [RUN_,(Uzt _).1,FR_,simprocAttr,if_true,if_false,ite_true,ite_false,ne_eq,eq_self,OPK_,KEY_,u8_lt',h1,h2]
      exact hK
theorem Or_spec {C:CallW} (hC:LeC C C) (P:Program) (x y:Int):∀S H (K:AV→St→Prop),K (.i (if x≠0 then x else y)) ⟨S,H⟩→runL C P Cz2q [.list .sh 1 [.i x,.i y]] ⟨S,H⟩ K:=by
  intro S H K hK
  have go:∀{n0 m b is fr K},underL n0 (keep m fr)=true→runC C P false b (.lp m b n0 :: is) (keep m fr) ⟨S.take n0,H⟩ K→runLp C P false m b n0 is fr ⟨S,H⟩ K:=fun hu h=>loop_step hC rfl hu h
  have w1:IntKind.i64.wrap 1=1:=by decide
  have w2:IntKind.i64.wrap 2=2:=by decide
  simp only [Cz2q,RUN_,Uz1d.1,FR_,simprocAttr,if_true,if_false,ite_true,ite_false,ne_eq,eq_self,OPK_,KEY_]
  refine go (by simp [keep,AV.under,AV.under.go]) ?_
  simp only [keep,List.take_length]
  by_cases h1:x=0
  · have h1':(x=0)=True:=eq_true h1
    rw [if_neg (by simpa using h1)] at hK
    simp only [RUN_,Uz1d.1,FR_,simprocAttr,if_true,if_false,ite_true,ite_false,ne_eq,eq_self,OPK_,KEY_,indexAddrL,Int.toNat_zero,h1']
    refine go (by simp [keep,AV.under,AV.under.go]) ?_
    simp only [keep,List.take_length]
    by_cases h2:y=0
    · have h2':(y=0)=True:=eq_true h2
      simp only [RUN_,Uz1d.1,FR_,simprocAttr,if_true,if_false,ite_true,ite_false,ne_eq,eq_self,OPK_,KEY_,indexAddrL,w1,Int.toNat_one,h2']
      refine go (by simp [keep,AV.under,AV.under.go]) ?_
      simp only [keep,List.take_length]
      simp only [RUN_,Uz1d.1,FR_,simprocAttr,if_true,if_false,ite_true,ite_false,ne_eq,eq_self,OPK_,KEY_,w2]
      rw [h2] at hK
      exact hK
    · simp only [RUN_,Uz1d.1,FR_,simprocAttr,if_true,if_false,ite_true,ite_false,ne_eq,eq_self,OPK_,KEY_,indexAddrL,w1,Int.toNat_one,h2]
      exact hK
  · rw [if_pos h1] at hK
    simp only [RUN_,Uz1d.1,FR_,simprocAttr,if_true,if_false,ite_true,ite_false,ne_eq,eq_self,OPK_,KEY_,indexAddrL,Int.toNat_zero,h1]
    exact hK
theorem cmpS_or (a b:Stp):(if cmpI a.t b.t≠0 then cmpI a.t b.t else cmpU a.n b.n)=cmpS a b:=by
  unfold cmpI cmpU cmpS
  by_cases h1:a.t < b.t
  · simp [h1]
  · by_cases h2:b.t < a.t
    · simp [h1,h2]
    · simp [h1,h2]
theorem stamp_Cmp_spec {C : CallW} (hC : LeC C C) (hW : WkC C) (P : Program) {c : Nat → FuncId} (h0 : ∀ x y : Int, FnS C (c 0) [.s (.int .i64 x), .s (.int .i64 y)] (.i (cmpI x y))) (h1 : ∀ x y : UInt8, FnS C (c 1) [u8 x, u8 y] (.i (cmpU x y)))
    (h2:∀x y:Int,FnS C (c 2) [.list .sh 1 [.i x,.i y]] (.i (if x≠0 then x else y))) (a b:Stp):∀S H (K:AV→St→Prop),K (.i (cmpS a b)) ⟨S,H⟩→runL C P (Cz2x c) [.agg (stc a),.agg (stc b)] ⟨S,H⟩ K:=by
  intro S H K hK
  simp only [stc,Cz2x,RUN_,(Uz28 _).1,FR_,simprocAttr,if_true,if_false,ite_true,ite_false,ne_eq,eq_self,OPK_,KEY_,CHK_,Nat.reduceBEq,K5_]
  refine h0 _ _ _ _ _ ?_
  simp only [RUN_,(Uz28 _).1,FR_,simprocAttr,if_true,if_false,ite_true,ite_false,ne_eq,eq_self,OPK_,KEY_,CHK_,Nat.reduceBEq,K5_]
  refine h1 _ _ _ _ _ ?_
  simp only [RUN_,(Uz28 _).1,FR_,simprocAttr,if_true,if_false,ite_true,ite_false,ne_eq,eq_self,OPK_,KEY_,CHK_,Nat.reduceBEq,K5_,List.isEmpty_cons]
  refine hW _ _ [.list .sh 1 [.i _,.i _]] _ _ (.full .nil) ?_
  refine h2 _ _ _ _ _ ?_
  rw [cmpS_or]
  simp only [RUN_,(Uz28 _).1,FR_,simprocAttr,if_true,if_false,ite_true,ite_false,ne_eq,eq_self,OPK_,KEY_,CHK_,Nat.reduceBEq,K5_]
  exact hK
end Go.AM
namespace Go.AM
open Go
set_option maxRecDepth 20000
end Go.AM
namespace Go.AM
open Go
set_option maxRecDepth 20000
end Go.AM
namespace Go.AM
open Go
set_option maxRecDepth 20000
end Go.AM
namespace Go.AM
open Go
set_option maxRecDepth 20000
theorem stamp_Good_spec {C:CallW} (P:Program) (s:Stp):∀S H (K:AV→St→Prop),K (.bool (goodS s)) ⟨S,H⟩→runL C P Cz1q [.agg (stc s)] ⟨S,H⟩ K:=by
  intro S H K hK
  unfold goodS at hK
  by_cases h1:0≤s.t
  · by_cases h2:s.t≤36028797018963967
    · simp only [h1,h2,decide_true,Bool.and_self] at hK
      simp only [Cz1q,A_,simprocAttr,ne_eq,Uz2n.1,h1,h2]
      exact hK
    · simp only [h1,h2,decide_true,decide_false,Bool.and_false] at hK
      simp only [Cz1q,A_,simprocAttr,ne_eq,Uz2n.1,h1,h2]
      exact hK
  · simp only [h1,decide_false,Bool.false_and] at hK
    simp only [Cz1q,A_,simprocAttr,ne_eq,Uz2n.1,h1]
    exact hK
end Go.AM
namespace Go.AM
open Go
set_option maxRecDepth 20000
def Cz4c:LCode:=(.block 1 (.sq [(zv 12 3),(zs 13 (.bin .add .sc (.t 12) (zi 1))),(zs 3 (.mv true (.t 13)))]))
def u_C_key_text_k1:=PLift.up (@unfC _ _ (Cz4c.eq_1))
def Cz4d:LCode:=(.seq (.seq (.sq [(zv 4 3),(zs 5 (.bin .lss .sc (.t 4) (zi 16))),(zv 6 5),(zt 7 6 (.mv false (.t 3))),(zt 8 6 (.ixa (.arr 16 1) (.t 1) (.t 7))),(zt 9 6 (.load1 false (.t 8))),(zt 10 6 (.bin .neq .sc (.t 9) (.c (.int .u8 0)))),(zs 11 (.pick (.t 6) (.t 10) zF))]) (.cond (.t 11) .skip (.exit 0))) Cz4c)
def u_C_key_text_k2:=PLift.up (@unfC _ _ (Cz4d.eq_1))
def Cz4e:LCode:=(.seq (.sq [(zv 14 3),(zs 15 (.slc (.arr 16 1) (.t 1) none (some (.t 14)) none)),(zs 16 (.conv .ofBytes (.t 15))),(zs 2 (.mv true (.t 16)))]) .ret)
def u_C_key_text_k3:=PLift.up (@unfC _ _ (Cz4e.eq_1))
def Cz4f:LCode:=(.seq (.block 0 (.loop [false,true,false,true,false,false,false,false,false,false,false,false,false,false,false,false,false] Cz4d)) Cz4e)
def u_C_key_text_k4:=PLift.up (@unfC _ _ (Cz4f.eq_1))
def Cz3b:LFn:=⟨17,[.t 2],(.seq (.sq [(zs 1 (.box false false (.t 0))),(zs 2 (.mv true (.c (.str []))))]) (.seq (.sq [(zs 3 (.mv true (zi 0)))]) Cz4f))⟩
def Cz58 (f_strings_IndexByte:FuncId):LCode:=(.seq (.sq [(zs 17 (.loadA 16 (.t 4))),(zn (.store 16 (.t 2) (.t 17))),(zs 3 (.mv true (zi 1)))]) .ret)
def u_C_key_Of_k1 (f_strings_IndexByte:FuncId):=PLift.up (@unfC _ _ (Cz58.eq_1 f_strings_IndexByte))
def Cz59 (f_strings_IndexByte:FuncId):LCode:=(.seq (.sq [(zs 21 (.loadA 16 (.t 4))),(zn (.store 16 (.t 2) (.t 21))),(zs 3 (.mv true (zi 0)))]) .ret)
def u_C_key_Of_k2 (f_strings_IndexByte:FuncId):=PLift.up (@unfC _ _ (Cz59.eq_1 f_strings_IndexByte))
def Cz5a (f_strings_IndexByte:FuncId):LCode:=(.seq (.sq [(zs 18 (.slc (.arr 16 1) (.t 4) none none none)),(zv 19 0),(zs 20 (.cpy ⟨1,false,1,(.s (.int .u8 0))⟩ true (.t 18) (.t 19)))]) (Cz59 f_strings_IndexByte))
def u_C_key_Of_k3 (f_strings_IndexByte:FuncId):=PLift.up (@unfC _ _ (Cz5a.eq_1 f_strings_IndexByte))
def Cz5b (f_strings_IndexByte:FuncId):LCode:=(.seq (.seq (.sq [(zv 5 0),(zs 6 (.bin .eql .sc (.t 5) (.c (.str [])))),(zv 7 6),(zf 8 7 (.mv false (.t 0))),(zf 9 7 (.len .str (.t 8))),(zf 10 7 (.bin .gtr .sc (.t 9) (zi 16))),(zs 11 (.pick (.t 7) zT (.t 10))),(zv 12 11),(zf 13 12 (.mv false (.t 0))),(zf 14 12 (.call (.f f_strings_IndexByte) [(.t 13),(.c (.int .u8 0))])),(zf 15 12 (.bin .geq .sc (.t 14) (zi 0))),(zs 16 (.pick (.t 12) zT (.t 15)))]) (.cond (.t 16) (Cz58 f_strings_IndexByte) .skip)) (Cz5a f_strings_IndexByte))
def u_C_key_Of_k4 (f_strings_IndexByte:FuncId):=PLift.up (@unfC _ _ (Cz5b.eq_1 f_strings_IndexByte))
def Cz2w (f_strings_IndexByte:FuncId):LFn:=⟨22,[.many 2 16,.t 3],(.seq (.sq [(zs 2 (.alloc false zk)),(zs 3 (.mv true (zi 0)))]) (.seq (.sq [(zs 4 (.alloc false zk))]) (Cz5b f_strings_IndexByte)))⟩
def Cz4g (f_key_text f_key_Of:FuncId):LCode:=(.seq (.sq [(zv 11 4),(zs 12 (.bin .eql .sc (.t 11) (zi 0))),(zv 13 12),(zt 14 13 (.loadA 16 (.t 3))),(zt 15 13 (.loadA 16 (.t 1))),(zt 16 13 (.bin .eql (.leaf lk) (.t 14) (.t 15))),(zs 17 (.pick (.t 13) (.t 16) zF)),(zs 2 (.mv true (.t 17)))]) .ret)
def u_C_key_Good_k1 (f_key_text f_key_Of:FuncId):=PLift.up (@unfC _ _ (Cz4g.eq_1 f_key_text f_key_Of))
def Cz4h (f_key_text f_key_Of:FuncId):LCode:=(.seq (.sq [(zs 6 (.loadA 16 (.t 1))),(zs 7 (.call (.f f_key_text) [(.t 6)])),(zs 8 (.call (.f f_key_Of) [(.t 7)])),(zv 5 8),(zs 9 (.ext (.t 5) 0)),(zs 10 (.ext (.t 5) 1)),(zs 3 (.alloc false zk)),(zn (.store 16 (.t 3) (.t 9))),(zs 4 (.mv true (.t 10)))]) (Cz4g f_key_text f_key_Of))
def u_C_key_Good_k2 (f_key_text f_key_Of:FuncId):=PLift.up (@unfC _ _ (Cz4h.eq_1 f_key_text f_key_Of))
def Cz3c (f_key_text f_key_Of:FuncId):LFn:=⟨18,[.t 2],(.seq (.sq [(zs 1 (.box false false (.t 0))),(zs 2 (.mv true zF))]) (Cz4h f_key_text f_key_Of))⟩
def Cz4u (f_bytes_Compare:FuncId):LCode:=(.seq (.tree (.rd (zs 5 (.slc (.arr 16 1) (.t 2) none none none)) 0 false (.rd (zs 6 (.slc (.arr 16 1) (.t 3) none none none)) 1 false (.mv (zs 7 (.call (.f f_bytes_Compare) [(.t 5),(.t 6)])) [0,1] (.mv (zs 4 (.mv true (.t 7))) [0,1,2] .done .stop) .stop)))) .ret)
def u_C_key_Cmp_k1 (f_bytes_Compare:FuncId):=PLift.up (@unfC _ _ (Cz4u.eq_1 f_bytes_Compare))
def Cz3l (f_bytes_Compare:FuncId):LFn:=⟨8,[.t 4],(.seq (.sq [(zs 2 (.box false false (.t 0))),(zs 3 (.box false false (.t 1))),(zs 4 (.mv true (zi 0)))]) (Cz4u f_bytes_Compare))⟩
def Cz30 (f_internal_bytealg_Compare:FuncId):LCode:=(.seq (.sq [(zs 5 (.mv true (.t 0))),(zs 6 (.mv true (.t 1))),(zs 7 (.call (.f f_internal_bytealg_Compare) [(.t 5),(.t 6)])),(zs 4 (.mv true (.t 7)))]) .ret)
def u_C_bytes_Compare_k1 (f_internal_bytealg_Compare:FuncId):=PLift.up (@unfC _ _ (Cz30.eq_1 f_internal_bytealg_Compare))
def Cz21 (f_internal_bytealg_Compare:FuncId):LFn:=⟨8,[.t 4],(.seq (.sq [(zs 4 (.mv true (zi 0)))]) (Cz30 f_internal_bytealg_Compare))⟩
def Cz29 (f_internal_stringslite_IndexByte:FuncId):LCode:=(.seq (.sq [(zv 5 0),(zv 6 1),(zs 7 (.call (.f f_internal_stringslite_IndexByte) [(.t 5),(.t 6)])),(zs 4 (.mv true (.t 7)))]) .ret)
def u_C_strings_IndexByte_k1 (f_internal_stringslite_IndexByte:FuncId):=PLift.up (@unfC _ _ (Cz29.eq_1 f_internal_stringslite_IndexByte))
def Cz1g (f_internal_stringslite_IndexByte:FuncId):LFn:=⟨8,[.t 4],(.seq (.sq [(zs 4 (.mv true (zi 0)))]) (Cz29 f_internal_stringslite_IndexByte))⟩
def Cz1b (f_internal_bytealg_IndexByteString:FuncId):LCode:=(.seq (.sq [(zv 5 0),(zv 6 1),(zs 7 (.call (.f f_internal_bytealg_IndexByteString) [(.t 5),(.t 6)])),(zs 4 (.mv true (.t 7)))]) .ret)
def u_C_internal_stringslite_IndexByte_k1 (f_internal_bytealg_IndexByteString:FuncId):=PLift.up (@unfC _ _ (Cz1b.eq_1 f_internal_bytealg_IndexByteString))
def Czm (f_internal_bytealg_IndexByteString:FuncId):LFn:=⟨8,[.t 4],(.seq (.sq [(zs 4 (.mv true (zi 0)))]) (Cz1b f_internal_bytealg_IndexByteString))⟩
def Cz2a:LCode:=(.seq (.sq [(zs 15 (.loadA 16 (.t 4))),(zn (.store 16 (.t 2) (.t 15))),(zs 3 (.mv true zF))]) .ret)
def u_C_hourglassref10_Of_k1:=PLift.up (@unfC _ _ (Cz2a.eq_1))
def Cz2b:LCode:=(.seq (.sq [(zs 26 (.build zk [])),(zn (.store 16 (.t 2) (.t 26))),(zs 3 (.mv true zF))]) .ret)
def u_C_hourglassref10_Of_k2:=PLift.up (@unfC _ _ (Cz2b.eq_1))
def Cz2c:LCode:=(.sq [(zv 27 5),(zv 28 0),(zv 29 5),(zs 30 (.ixs (.t 28) (.t 29))),(zs 31 (.ixa (.arr 16 1) (.t 4) (.t 27))),(zn (.store 1 (.t 31) (.t 30)))])
def u_C_hourglassref10_Of_k3:=PLift.up (@unfC _ _ (Cz2c.eq_1))
def Cz2d:LCode:=(.sq [(zv 20 5),(zs 21 (.bin .add .sc (.t 20) (zi 1))),(zs 5 (.mv true (.t 21)))])
def u_C_hourglassref10_Of_k4:=PLift.up (@unfC _ _ (Cz2d.eq_1))
def Cz2e:LCode:=(.seq (.block 1 (.seq (.seq (.sq [(zv 22 0),(zv 23 5),(zs 24 (.ixs (.t 22) (.t 23))),(zs 25 (.bin .eql .sc (.t 24) (.c (.int .u8 0))))]) (.cond (.t 25) Cz2b .skip)) Cz2c)) Cz2d)
def u_C_hourglassref10_Of_k5:=PLift.up (@unfC _ _ (Cz2e.eq_1))
def Cz2f:LCode:=(.seq (.seq (.sq [(zv 16 5),(zv 17 0),(zs 18 (.len .str (.t 17))),(zs 19 (.bin .lss .sc (.t 16) (.t 18)))]) (.cond (.t 19) .skip (.exit 0))) Cz2e)
def u_C_hourglassref10_Of_k6:=PLift.up (@unfC _ _ (Cz2f.eq_1))
def Cz2g:LCode:=(.block 0 (.loop [true,false,true,false,true,true,false,false,false,false,false,false,false,false,false,false,false,false,false,false,false,false,false,false,false,false,false,false,false,false,false,false,false] Cz2f))
def u_C_hourglassref10_Of_k7:=PLift.up (@unfC _ _ (Cz2g.eq_1))
def Cz2h:LCode:=(.seq (.sq [(zs 32 (.loadA 16 (.t 4))),(zn (.store 16 (.t 2) (.t 32))),(zs 3 (.mv true zT))]) .ret)
def u_C_hourglassref10_Of_k8:=PLift.up (@unfC _ _ (Cz2h.eq_1))
def Cz2i:LCode:=(.seq (.seq (.sq [(zv 7 0),(zs 8 (.len .str (.t 7))),(zs 9 (.bin .lss .sc (.t 8) (zi 1))),(zv 10 9),(zf 11 10 (.mv false (.t 0))),(zf 12 10 (.len .str (.t 11))),(zf 13 10 (.bin .gtr .sc (.t 12) (zi 16))),(zs 14 (.pick (.t 10) zT (.t 13)))]) (.cond (.t 14) Cz2a .skip)) (.seq (.seq (.sq [(zs 5 (.mv true (zi 0)))]) Cz2g) Cz2h))
def u_C_hourglassref10_Of_k9:=PLift.up (@unfC _ _ (Cz2i.eq_1))
def Cz24:LCode:=(.seq (.sq [(zs 6 (.build zk [])),(zs 4 (.alloc false zk)),(zn (.store 16 (.t 4) (.t 6)))]) Cz2i)
def u_C_hourglassref10_Of_k10:=PLift.up (@unfC _ _ (Cz24.eq_1))
def Czu:LFn:=⟨33,[.many 2 16,.t 3],(.seq (.sq [(zs 2 (.alloc false zk)),(zs 3 (.mv true zF))]) Cz24)⟩
end Go.AM
namespace Go.AM
open Go
open AV renaming undef → uu
set_option maxRecDepth 20000
def textOf (k:Key):List UInt8:=k.b.takeWhile (· != 0)
theorem take_stop {l:List UInt8} {i:Nat} (h:i≤l.length) (hall:∀j,(hj:j < i)→l[j]'(by omega)≠0) (hs:∀hi:i < l.length,l[i]=0):l.take i=l.takeWhile (· != 0):=by
  induction l generalizing i with
  | nil=>simp
  | cons x l ih =>
    cases i with
    | zero =>
      have:=hs (by simp)
      simp at this
      subst this; simp
    | succ i =>
      have h0:=hall 0 (by omega)
      simp at h0
      rw [List.take_succ_cons,List.takeWhile_cons]
      have hx:(x != 0)=true:=by simpa using h0
      rw [hx]
      simp only [if_true]
      rw [ih (by simpa using h) (fun j hj=>by have:=hall (j + 1) (by omega); simpa using this) fun hi=>by have:=hs (by simpa using hi); simpa using this]
set_option maxHeartbeats 1000000 in
theorem key_text_spec {C:CallW} (hC:LeC C C) (P:Program) (k:Key) (S:List (List AV)) (H:List HObj) (K:AV→St→Prop) (hK:K (.str (textOf k)) ⟨S,H⟩):runL C P Cz3b [.agg k.c] ⟨S,H⟩ K:=by
  simp only [Cz3b,RUN_,u_C_key_text_k1.1,u_C_key_text_k2.1,u_C_key_text_k3.1,u_C_key_text_k4.1,FR_,simprocAttr,if_true,if_false,ite_true,ite_false,ne_eq,eq_self,binL,scBin,blBin,intBin,intShift,unL,load1L,storeL,readA,readCells,writeCells,splice,mayHold,boxOf_stk,boxOf_heap,setBox_stk,setBox_heap,newBox_stk,newBox_heap,app_get0,app_get,app_set0,app_set,app_take,app_one,List.length_append,shift,partL,lenL,capL,Nat.add_assoc,AV.under,AV.under.go,finL,under_bs]
  refine loop_rule hC (α:=Nat) (fun i=>16 - i) (fun i=>[.undef,.ptr (.stk S.length) 0,.undef,.s (.int .i64 i),uu,uu,uu,uu,uu,uu,uu,uu,uu,uu,uu,uu,uu]) (fun _=>S ++ [k.c]) (fun _=>H) (fun i=>i≤16∧∀j,(hj:j < i)→(hj':j < k.b.length)→k.b[j]≠0) 0 ⟨by omega,fun j hj=>by omega⟩ rfl (app_take_add _ _ _) rfl (fun i hi=>by simp [AV.under,AV.under.go]) ?_
  rintro i ⟨hi,hall⟩ ih
  have hkl:=k.h
  by_cases h16:i < 16
  · have hb:=bs_get (l:=k.b) (i:=i) (by omega)
    have hw:IntKind.i64.wrap ((i:Int) + 1)=((i + 1:Nat):Int):=by rw [wrap_i64 (by omega) (by omega)]; rfl
    have h1:((i:Int) < 16):=by omega
    have h2:(0:Int)≤(i:Int):=by omega
    by_cases hz:k.b[i]'(by omega)=0
    · have hc:=conv_row (σ:=⟨S ++ [k.c],H⟩) (r := .stk S.length) (off:=0) (len:=i) (cap:=16) (l:=k.b) (by rw [boxOf_stk,app_get0]; rfl) (by omega)
      rw [List.drop_zero,take_stop (by omega) (fun j hj=>hall j hj (by omega)) (fun _=>hz)] at hc
      simp only [RUN_,u_C_key_text_k1.1,u_C_key_text_k2.1,u_C_key_text_k3.1,u_C_key_text_k4.1,FR_,simprocAttr,if_true,if_false,ite_true,ite_false,ne_eq,eq_self,binL,scBin,blBin,intBin,intShift,unL,load1L,storeL,readA,readCells,writeCells,splice,mayHold,boxOf_stk,boxOf_heap,setBox_stk,setBox_heap,newBox_stk,newBox_heap,app_get0,app_get,app_set0,app_set,app_take,app_one,List.length_append,shift,partL,lenL,capL,Nat.add_assoc,AV.under,AV.under.go,finL,indexAddrL,h1,h2,hb,Int.toNat_natCast,Nat.mul_one,u8,hz,sliceL,bound,Option.map_some,Nat.zero_le,hi,UInt8.toNat_zero,hc,Nat.sub_zero]
      exact hK
    · have hz':¬(((k.b[i]'(by omega)).toNat:Int)=0):=fun e=>hz (by
        have:(k.b[i]'(by omega)).toNat=0:=by omega
        exact UInt8.toNat_inj.1 this)
      simp only [RUN_,u_C_key_text_k1.1,u_C_key_text_k2.1,u_C_key_text_k3.1,u_C_key_text_k4.1,FR_,simprocAttr,if_true,if_false,ite_true,ite_false,ne_eq,eq_self,binL,scBin,blBin,intBin,intShift,unL,load1L,storeL,readA,readCells,writeCells,splice,mayHold,boxOf_stk,boxOf_heap,setBox_stk,setBox_heap,newBox_stk,newBox_heap,app_get0,app_get,app_set0,app_set,app_take,app_one,List.length_append,shift,partL,lenL,capL,Nat.add_assoc,AV.under,AV.under.go,finL,indexAddrL,h1,h2,hb,Int.toNat_natCast,Nat.mul_one,u8,hz',hw]
      exact ih (i + 1) _ _ _ (by omega) ⟨by omega,fun j hj hj'=>by
        rcases Nat.lt_or_ge j i with h | h
        · exact hall j h hj'
        · have:j=i:=by omega
          subst this; exact hz⟩ rfl (app_take_add _ _ _) rfl
  · have h1:¬((i:Int) < 16):=by omega
    have h16':i=16:=by omega
    have h2:(0:Int)≤(i:Int):=by omega
    have hc:=conv_row (σ:=⟨S ++ [k.c],H⟩) (r := .stk S.length) (off:=0) (len:=i) (cap:=16) (l:=k.b) (by rw [boxOf_stk,app_get0]; rfl) (by omega)
    rw [List.drop_zero,take_stop (by omega) (fun j hj=>hall j hj (by omega)) (fun h=>by omega)] at hc
    simp only [RUN_,u_C_key_text_k1.1,u_C_key_text_k2.1,u_C_key_text_k3.1,u_C_key_text_k4.1,FR_,simprocAttr,if_true,if_false,ite_true,ite_false,ne_eq,eq_self,binL,scBin,blBin,intBin,intShift,unL,load1L,storeL,readA,readCells,writeCells,splice,mayHold,boxOf_stk,boxOf_heap,setBox_stk,setBox_heap,newBox_stk,newBox_heap,app_get0,app_get,app_set0,app_set,app_take,app_one,List.length_append,shift,partL,lenL,capL,Nat.add_assoc,AV.under,AV.under.go,finL,h1,h2,sliceL,bound,Option.map_some,Nat.zero_le,hi,hc,Nat.sub_zero,Int.toNat_natCast]
    exact hK
end Go.AM
namespace Go.AM
open Go
set_option maxRecDepth 20000
def CmpB (C:CallW) (f:FuncId):Prop:=∀(a b:List UInt8) (S:List (List AV)) (H:List HObj) (r1 r2:Nat) (K:AV→St→Prop),S[r1]? = some (bs a)→S[r2]? = some (bs b)→a.length=16→b.length=16 →
  K (.i (Lib.compareBytes a b)) ⟨S,H⟩→C (.fn f) [.row (.stk r1) 0 16 16,.row (.stk r2) 0 16 16] ⟨S,H⟩ K
def KCmp (C:CallW) (f:FuncId):Prop:=∀(a b:Key) S H K,K (.i (Lib.compareBytes a.b b.b)) ⟨S,H⟩→C (.fn f) [.agg (bs a.b),.agg (bs b.b)] ⟨S,H⟩ K
set_option maxHeartbeats 1000000 in
theorem bytes_Compare_spec {C:CallW} (hC:LeC C C) (P:Program) {f:FuncId} (hf:CmpB C f):∀(a b:List UInt8) (S:List (List AV)) (H:List HObj) (r1 r2:Nat) (K:AV→St→Prop),S[r1]? = some (bs a)→S[r2]? = some (bs b)→a.length=16→b.length=16 →
  K (.i (Lib.compareBytes a b)) ⟨S,H⟩→runL C P (Cz21 f) [.row (.stk r1) 0 16 16,.row (.stk r2) 0 16 16] ⟨S,H⟩ K:=by
  intro a b S H r1 r2 K h1 h2 ha hb hK
  simp only [Cz21,RUN_,(u_C_bytes_Compare_k1 _).1,FR_,simprocAttr,if_true,if_false,ite_true,ite_false,ne_eq,eq_self,OPK_,KEY_]
  refine hf a b S H r1 r2 _ h1 h2 ha hb ?_
  simp only [RUN_,(u_C_bytes_Compare_k1 _).1,FR_,simprocAttr,if_true,if_false,ite_true,ite_false,ne_eq,eq_self,OPK_,KEY_,List.take_length]
  exact hK
set_option maxHeartbeats 1000000 in
theorem key_Cmp_spec {C:CallW} (hC:LeC C C) (P:Program) {f:FuncId} (hf:CmpB C f):∀(a b:Key) S H K,K (.i (Lib.compareBytes a.b b.b)) ⟨S,H⟩→runL C P (Cz3l f) [.agg (bs a.b),.agg (bs b.b)] ⟨S,H⟩ K:=by
  intro a b S H K hK
  simp only [Cz3l,RUN_,(u_C_key_Cmp_k1 _).1,FR_,simprocAttr,if_true,if_false,ite_true,ite_false,ne_eq,eq_self,OPK_,KEY_]
  refine hf a.b b.b _ _ _ _ _ ?_ ?_ a.h b.h ?_
  · simp
  · simp
  simp only [RUN_,(u_C_key_Cmp_k1 _).1,FR_,simprocAttr,if_true,if_false,ite_true,ite_false,ne_eq,eq_self,OPK_,KEY_]
  exact hK
def IdxS (C:CallW) (f:FuncId):Prop:=∀(l:List UInt8) (S:List (List AV)) (H:List HObj) (K:AV→St→Prop),K (.i (Lib.indexByte l 0)) ⟨S,H⟩→C (.fn f) [.s (.str l),.s (.int .u8 0)] ⟨S,H⟩ K
theorem strings_IndexByte_spec {C:CallW} (hC:LeC C C) (P:Program) {f:FuncId} (hf:IdxS C f):∀(l:List UInt8) (S:List (List AV)) (H:List HObj) (K:AV→St→Prop),K (.i (Lib.indexByte l 0)) ⟨S,H⟩→runL C P (Cz1g f) [.s (.str l),.s (.int .u8 0)] ⟨S,H⟩ K:=by
  intro l S H K hK
  simp only [Cz1g,RUN_,(u_C_strings_IndexByte_k1 _).1,FR_,simprocAttr,if_true,if_false,ite_true,ite_false,ne_eq,eq_self,OPK_,KEY_]
  refine hf _ _ _ _ ?_
  simp only [RUN_,(u_C_strings_IndexByte_k1 _).1,FR_,simprocAttr,if_true,if_false,ite_true,ite_false,ne_eq,eq_self,OPK_,KEY_,List.take_length]
  exact hK
theorem stringslite_IndexByte_spec {C:CallW} (hC:LeC C C) (P:Program) {f:FuncId} (hf:IdxS C f):∀(l:List UInt8) (S:List (List AV)) (H:List HObj) (K:AV→St→Prop),K (.i (Lib.indexByte l 0)) ⟨S,H⟩→runL C P (Czm f) [.s (.str l),.s (.int .u8 0)] ⟨S,H⟩ K:=by
  intro l S H K hK
  simp only [Czm,RUN_,(u_C_internal_stringslite_IndexByte_k1 _).1,FR_,simprocAttr,if_true,if_false,ite_true,ite_false,ne_eq,eq_self,OPK_,KEY_]
  refine hf _ _ _ _ ?_
  simp only [RUN_,(u_C_internal_stringslite_IndexByte_k1 _).1,FR_,simprocAttr,if_true,if_false,ite_true,ite_false,ne_eq,eq_self,OPK_,KEY_,List.take_length]
  exact hK
def padB (s:List UInt8):List UInt8:=s.take 16 ++ List.replicate (16 - s.length) 0
def padK (s:List UInt8):Key:=⟨padB s,by simp [padB]; omega⟩
def badT (s:List UInt8):Prop:=s=[]∨16 < s.length∨(0:UInt8)∈s
instance (s:List UInt8):Decidable (badT s):=inferInstanceAs (Decidable (_∨_))
def keyOf (s:List UInt8):Key×Int:=if badT s then (key0,1) else (padK s,0)
theorem idx_neg {l:List UInt8}:Lib.indexByte l 0≥0↔(0:UInt8)∈l:=by
  induction l with
  | nil=>simp [Lib.indexByte]
  | cons x l ih =>
    simp only [Lib.indexByte,beq_iff_eq,List.mem_cons]
    by_cases h:x=0
    · simp [h]
    · rw [if_neg h]
      have hge:=Lib.indexByte_ge l 0
      by_cases h1:Lib.indexByte l 0 = -1
      · rw [if_pos h1]
        have:¬((0:UInt8)∈l):=fun hm=>by have:=ih.2 hm; omega
        simp [this]; exact fun e=>h e.symm
      · rw [if_neg h1]
        have:(0:UInt8)∈l:=ih.1 (by omega)
        simp [this]; omega
theorem splice_zero {cs vs:List AV} (h:vs.length≤cs.length):splice cs 0 vs=vs ++ cs.drop vs.length:=by
  unfold splice
  split
  · cases cs with
    | nil=>simp at h
    | cons c cs=>simp
  · simp
theorem flat_bs (l:List UInt8):(bs l).flatMap AV.cells=bs l:=by
  induction l with
  | nil=>rfl
  | cons x l ih=>show [u8 x] ++ (bs l).flatMap AV.cells=_; rw [ih]; rfl
theorem copy_str {e : ET} {S l : List (List AV)} {H : List HObj} {j : Nat} {s : List UInt8} {k : Key} (he : e.c = 1) (hj : j < l.length) (hk : l.getD j [] = bs k.b) (hs : s.length ≤ 16) :
    copyL e true (.row (.stk (S.length + j)) 0 16 16) (.s (.str s)) ⟨S ++ l,H⟩=some (.i s.length,⟨S ++ l.set j (bs (s ++ k.b.drop s.length)),H⟩):=by
  have e1:l[j]? = some (bs k.b):=by rw [←hk]; simp [List.getD,hj]
  have hi:elemsL e (.s (.str s)) ⟨S ++ l,H⟩=some (bs s):=by simp [elemsL,he,bs,u8]
  unfold copyL
  simp only [srcL,AV.isStr,if_true,hi]
  rw [List.take_of_length_le (by rw [bs_length]; exact hs),flat_bs,bs_length]
  simp only [writeCells,boxOf_stk,app_get,e1,Option.bind_some,mayHold,under_bs,bs_length,k.h,Nat.zero_add,hs,decide_true,Bool.and_self,if_true,Option.map_some,setBox_stk,app_set]
  rw [splice_zero (by rw [bs_length,bs_length,k.h]; exact hs),bs_length,bs_drop]
  simp only [bs,List.map_append]
theorem pad_drop {s:List UInt8} (hs:s.length≤16):s ++ key0.b.drop s.length=padB s:=by
  unfold padB key0
  rw [List.take_of_length_le hs,List.drop_replicate]
def OfK (C:CallW) (f:FuncId):Prop:=∀(s:List UInt8) (S:List (List AV)) (H:List HObj) (K:AV→St→Prop),K (.tup [.agg (bs (keyOf s).1.b),.i (keyOf s).2]) ⟨S,H⟩→C (.fn f) [.s (.str s)] ⟨S,H⟩ K
set_option maxHeartbeats 1000000 in
theorem key_Of_spec {C:CallW} (hC:LeC C C) (P:Program) {f:FuncId} (hf:IdxS C f):∀(s:List UInt8) (S:List (List AV)) (H:List HObj) (K:AV→St→Prop),K (.tup [.agg (bs (keyOf s).1.b),.i (keyOf s).2]) ⟨S,H⟩→runL C P (Cz2w f) [.s (.str s)] ⟨S,H⟩ K:=by
  intro s S H K hK
  have key0l:(bs key0.b).length=16:=rfl
  by_cases h0:s=[]
  · have e:keyOf s=(key0,1):=if_pos (.inl h0)
    rw [e] at hK
    simp only [Cz2w,RUN_,(u_C_key_Of_k1 _).1,(u_C_key_Of_k2 _).1,(u_C_key_Of_k3 _).1,(u_C_key_Of_k4 _).1,FR_,simprocAttr,if_true,if_false,ite_true,ite_false,ne_eq,eq_self,OPK_,KEY_,h0]
    exact hK
  · have h0':¬(s.length=0):=fun e=>h0 (List.length_eq_zero_iff.1 e)
    by_cases h1:16 < s.length
    · have e:keyOf s=(key0,1):=if_pos (.inr (.inl h1))
      rw [e] at hK
      have h1':(16:Int) < (s.length:Int):=by omega
      simp only [Cz2w,RUN_,(u_C_key_Of_k1 _).1,(u_C_key_Of_k2 _).1,(u_C_key_Of_k3 _).1,(u_C_key_Of_k4 _).1,FR_,simprocAttr,if_true,if_false,ite_true,ite_false,ne_eq,eq_self,OPK_,KEY_,h0,h1']
      exact hK
    · have h1':¬((16:Int) < (s.length:Int)):=by omega
      simp only [Cz2w,RUN_,(u_C_key_Of_k1 _).1,(u_C_key_Of_k2 _).1,(u_C_key_Of_k3 _).1,(u_C_key_Of_k4 _).1,FR_,simprocAttr,if_true,if_false,ite_true,ite_false,ne_eq,eq_self,OPK_,KEY_,h0,h1']
      refine hf _ _ _ _ ?_
      by_cases h2:(0:UInt8)∈s
      · have e:keyOf s=(key0,1):=if_pos (.inr (.inr h2))
        rw [e] at hK
        have h2':(0:Int)≤Lib.indexByte s 0:=idx_neg.2 h2
        simp only [RUN_,(u_C_key_Of_k1 _).1,(u_C_key_Of_k2 _).1,(u_C_key_Of_k3 _).1,(u_C_key_Of_k4 _).1,FR_,simprocAttr,if_true,if_false,ite_true,ite_false,ne_eq,eq_self,OPK_,KEY_,h2']
        exact hK
      · have e:keyOf s=(padK s,0):=if_neg (by rintro (h | h | h) <;> contradiction)
        rw [e] at hK
        have h2':¬((0:Int)≤Lib.indexByte s 0):=fun h=>h2 (idx_neg.1 h)
        have hcp:=copy_str (e:=⟨1,false,1,.s (.int .u8 0)⟩) (S:=S) (l:=[bs key0.b,bs key0.b]) (H:=H) (j:=1) (s:=s) (k:=key0) rfl (by simp) rfl (by omega)
        rw [pad_drop (by omega)] at hcp
        have hk2:(bs (padB s)).length=16:=by rw [bs_length]; exact (padK s).h
        simp only [RUN_,(u_C_key_Of_k1 _).1,(u_C_key_Of_k2 _).1,(u_C_key_Of_k3 _).1,(u_C_key_Of_k4 _).1,FR_,simprocAttr,if_true,if_false,ite_true,ite_false,ne_eq,eq_self,OPK_,KEY_,h2',hcp,hk2]
        exact hK
end Go.AM
namespace Go.AM
open Go
abbrev Rd:=Option (List UInt8)
end Go.AM
namespace Go.AM
open Go
set_option linter.unusedSectionVars false
variable {α:Type} [Inhabited α]
structure EK (f:α→AV) (c:Nat):Prop where
  len:∀x,(f x).cells.length=c
  pos:0 < c
  fit:∀x,(f x).fit=true
  look:∀x,(f x).cells.map AV.look=(f x).cells
  low:∀n x,AV.under.go n (f x).cells=true
def flat (f:α→AV) (d:Array α):List AV:=d.toList.flatMap fun x=>(f x).cells
section
variable {f:α→AV} {c:Nat}
theorem flatL_length (h:EK f c):∀(l:List α),(l.flatMap fun x=>(f x).cells).length=l.length * c
  | []=>by simp
  | x :: l=>by rw [List.flatMap_cons,List.length_append,h.len,flatL_length h l,List.length_cons,Nat.succ_mul,Nat.add_comm]
theorem flat_length (h:EK f c) (d:Array α):(flat f d).length=d.size * c:=by unfold flat; rw [flatL_length h]; simp
theorem get_bang {d:Array α} {i:Nat} (h:i < d.size):d[i]! = d.toList[i]'(by simpa using h):=by simp [h]
theorem flat_low (h:EK f c) (n:Nat) (d:Array α):AV.under.go n (flat f d)=true:=by
  unfold flat
  generalize d.toList=l
  induction l with
  | nil=>rfl
  | cons x l ih=>rw [List.flatMap_cons,under_app',h.low,ih]; rfl
end
theorem kA_EK:EK kA 16:=⟨fun x=>kc_length x,by omega,fun _=>rfl,fun x=>map_look_bs _,fun n x=>under_bs n _⟩
def iA (x:Int):AV := .s (.int .i64 x)
instance:Inhabited Key:=⟨key0⟩
instance:Inhabited Wr:=⟨⟨key0,[],false⟩⟩
end Go.AM
namespace Go.AM
open Go
end Go.AM
namespace Go.AM
open Go
set_option maxRecDepth 20000
end Go.AM
namespace Go.AM
open Go
set_option maxRecDepth 20000
end Go.AM
namespace Go.AM
open Go
set_option maxRecDepth 20000
end Go.AM
namespace Go.AM
open Go
set_option maxRecDepth 20000
def TextS (C:CallW) (f:FuncId):Prop:=∀(k:Key) S H K,K (.str (textOf k)) ⟨S,H⟩→C (.fn f) [.agg (bs k.b)] ⟨S,H⟩ K
def BoolK (g:Key→Bool) (C:CallW) (f:FuncId):Prop:=∀(k:Key) S H K,K (.bool (g k)) ⟨S,H⟩→C (.fn f) [.agg (bs k.b)] ⟨S,H⟩ K
theorem text_nz (k:Key):(0:UInt8)∉textOf k:=by
  intro h
  have h2:∀(l:List UInt8),(0:UInt8)∉l.takeWhile (· != 0):=by
    intro l
    induction l with
    | nil=>simp
    | cons x l ih =>
      rw [List.takeWhile_cons]
      split
      · rename_i hx
        intro h
        rcases List.mem_cons.1 h with h | h
        · subst h; simp at hx
        · exact ih h
      · simp
  exact h2 _ h
theorem text_len (k:Key):(textOf k).length≤16:=by
  have:=(List.takeWhile_sublist (fun x:UInt8=>x != 0) (l:=k.b)).length_le
  rw [k.h] at this
  exact this
def goodK (k:Key):Bool:=decide (textOf k≠[]) && decide (padK (textOf k)=k)
theorem good_of (k:Key):goodK k=(decide ((keyOf (textOf k)).2=0) && decide ((keyOf (textOf k)).1=k)):=by
  unfold goodK keyOf
  by_cases h:textOf k=[]
  · rw [if_pos (.inl h)]; simp [h]
  · rw [if_neg (by
      rintro (h1 | h1 | h1)
      · exact h h1
      · have:=text_len k; omega
      · exact text_nz k h1)]
    simp [h]
set_option maxHeartbeats 1000000 in
theorem key_Good_spec {C:CallW} (hC:LeC C C) (P:Program) {f1 f2:FuncId} (h1:TextS C f1) (h2:OfK C f2):∀(k:Key) S H K,K (.bool (goodK k)) ⟨S,H⟩→runL C P (Cz3c f1 f2) [.agg (bs k.b)] ⟨S,H⟩ K:=by
  intro k S H K hK
  rw [good_of] at hK
  simp only [Cz3c,RUN_,(u_C_key_Good_k1 _ _).1,(u_C_key_Good_k2 _ _).1,FR_,simprocAttr,if_true,if_false,ite_true,ite_false,ne_eq,eq_self,OPK_,KEY_]
  refine h1 _ _ _ _ ?_
  simp only [RUN_,(u_C_key_Good_k1 _ _).1,(u_C_key_Good_k2 _ _).1,FR_,simprocAttr,if_true,if_false,ite_true,ite_false,ne_eq,eq_self,OPK_,KEY_]
  refine h2 _ _ _ _ ?_
  by_cases he:(keyOf (textOf k)).2=0
  · simp only [RUN_,(u_C_key_Good_k1 _ _).1,(u_C_key_Good_k2 _ _).1,FR_,simprocAttr,if_true,if_false,ite_true,ite_false,ne_eq,eq_self,OPK_,KEY_,he]
    rw [he] at hK
    simpa using hK
  · simp only [RUN_,(u_C_key_Good_k1 _ _).1,(u_C_key_Good_k2 _ _).1,FR_,simprocAttr,if_true,if_false,ite_true,ite_false,ne_eq,eq_self,OPK_,KEY_,he]
    simpa [he] using hK
def goodL:Bool→List UInt8→Bool
  | _,[]=>true
  | e,x :: l=>if x=0 then goodL true l else if e then false else goodL false l
def goodR (k:Key):Bool:=goodL false k.b && decide (k.b[0]'(by rw [k.h]; omega)≠0)
theorem wrap_succ {i:Nat} (h:i < 4611686018427387904):IntKind.i64.wrap ((i:Int) + 1)=((i + 1:Nat):Int):=by rw [wrap_i64 (by omega) (by omega)]; rfl
theorem u8_zero {x:UInt8}:((x.toNat:Int)=0)↔x=0:=⟨fun h=>UInt8.toNat_inj.1 (by simp; omega),fun h=>by subst h; rfl⟩
end Go.AM
namespace Go.AM
open Go
theorem find_no:∀(es:List Entry) (l:List Key) (k:Key) (i:Nat),es.map (·.key)=l.map kA→k∉l→findL (.leaf lk) (.agg (bs k.b)) es i=some none
  | [],l,k,i,_,_=>rfl
  | e :: es,[],k,i,h,_=>by simp at h
  | e :: es,a :: l,k,i,h,hk=>by
    simp only [List.map_cons,List.cons.injEq] at h
    have hne:¬(k=a):=fun e=>hk (by rw [e]; simp)
    have hq:keyEqL (.leaf lk) (.agg (bs k.b)) e.key=some false:=by
      rw [h.1]
      simp only [keyEqL,KK.fits,kA,fits_k,and_self,if_true,AV.beq,beq_kk,hne,decide_false]
    rw [findL,hq]
    exact find_no es l k (i + 1) h.2 (fun m=>hk (List.mem_cons_of_mem _ m))
theorem find_yes:∀(es:List Entry) (l:List Key) (k:Key) (i:Nat),es.map (·.key)=l.map kA→k∈l→∃j e,es[j]? = some e∧l[j]? = some k∧findL (.leaf lk) (.agg (bs k.b)) es i=some (some (i + j,e))
  | [],l,k,i,h,hk=>by cases l with
    | nil=>simp at hk
    | cons=>simp at h
  | e :: es,[],k,i,h,_=>by simp at h
  | e :: es,a :: l,k,i,h,hk=>by
    simp only [List.map_cons,List.cons.injEq] at h
    by_cases hne:k=a
    · subst hne
      have hq:keyEqL (.leaf lk) (.agg (bs k.b)) e.key=some true:=by
        rw [h.1]
        simp only [keyEqL,KK.fits,kA,fits_k,and_self,if_true,AV.beq,beq_kk,decide_true]
      refine ⟨0,e,rfl,rfl,?_⟩
      rw [findL,hq]; rfl
    · have hq:keyEqL (.leaf lk) (.agg (bs k.b)) e.key=some false:=by
        rw [h.1]
        simp only [keyEqL,KK.fits,kA,fits_k,and_self,if_true,AV.beq,beq_kk,hne,decide_false]
      have hk':k∈l:=by
        rcases List.mem_cons.1 hk with h | h
        · exact absurd h hne
        · exact h
      obtain ⟨j,e',h1,h2,h3⟩:=find_yes es l k (i + 1) h.2 hk'
      refine ⟨j + 1,e',h1,h2,?_⟩
      rw [findL,hq]
      show findL (.leaf lk) (.agg (bs k.b)) es (i + 1)=_
      rw [h3]
      congr 3; omega
def seenE (l:List Key):List Entry:=l.zipIdx.map fun p=>⟨kA p.1,.bool true,p.2⟩
theorem seenE_keys (l:List Key):(seenE l).map (·.key)=l.map kA:=by
  unfold seenE
  rw [List.map_map]
  have:((fun x:Entry=>x.key) ∘ fun p:Key×Nat=>(⟨kA p.1,.bool true,p.2⟩:Entry))=kA ∘ Prod.fst:=rfl
  rw [this,←List.map_map,List.zipIdx_map_fst]
theorem seenE_snoc (l:List Key) (k:Key):seenE (l ++ [k])=seenE l ++ [⟨kA k,.bool true,l.length⟩]:=by
  unfold seenE
  rw [List.zipIdx_append]; simp
theorem seenE_val {l:List Key} {j:Nat} {e:Entry} (h:(seenE l)[j]? = some e):e.val = .bool true:=by
  unfold seenE at h
  rw [List.getElem?_map] at h
  cases hz:l.zipIdx[j]? with
  | none=>rw [hz] at h; simp at h
  | some p=>rw [hz] at h; simp at h; rw [←h]
theorem look_seen {S:List (List AV)} {H:List HObj} {l:List Key} {k:Key} {n:Nat}:lookupL (.leaf lk) (.s (.bool false)) false (.map H.length) (.agg (bs k.b)) ⟨S,H ++ [.map (seenE l) n]⟩=some (.s (.bool (decide (k∈l)))):=by
  have hm:mapOf ⟨S,H ++ [.map (seenE l) n]⟩ (.map H.length)=some (seenE l,n):=by simp [mapOf]
  simp only [lookupL,KK.fits,fits_k,if_true,hm]
  by_cases h:k∈l
  · obtain ⟨j,e,h1,h2,h3⟩:=find_yes _ _ k 0 (seenE_keys l) h
    rw [h3]
    simp [seenE_val h1,h]
  · rw [find_no _ _ k 0 (seenE_keys l) h]
    simp [h]
theorem upd_seen {S:List (List AV)} {H:List HObj} {l:List Key} {k:Key} {n:Nat} (h:k∉l) (hn:l.length=n):updateL (.leaf lk) (.map H.length) (.agg (bs k.b)) (.s (.bool true)) ⟨S,H ++ [.map (seenE l) n]⟩=some ⟨S,H ++ [.map (seenE (l ++ [k])) (n + 1)]⟩:=by
  subst hn
  have hm:mapOf ⟨S,H ++ [.map (seenE l) l.length]⟩ (.map H.length)=some (seenE l,l.length):=by simp [mapOf]
  simp only [updateL,KK.fits,fits_k,AV.under,and_self,if_true,hm]
  rw [find_no _ _ k 0 (seenE_keys l) h]
  simp only [setMap,app_set0,List.set_cons_zero,seenE_snoc,List.length_append,List.length_cons,List.length_nil]
  rfl
def sgood (seen:List Key):List Wr→Bool
  | []=>true
  | w :: l=>if goodK w.key=false then false else if w.key∈seen then false else if 200 < w.val.length then false else if w.gone=true∧w.val≠[] then false else sgood (seen ++ [w.key]) l
end Go.AM
namespace Go.AM
open Go
set_option maxRecDepth 20000
end Go.AM
namespace Go.AM
open Go
set_option maxRecDepth 20000
end Go.AM
namespace Go.AM
open Go
set_option maxRecDepth 20000
def cmpK (a b:Key):Int:=Lib.compareBytes a.b b.b
def withinK (k a b:Key):Bool:=decide (0≤cmpK k a) && (decide (b=key0) || decide (cmpK k b < 0))
def lstK (l:List Key):AV := .list .sh 16 (l.map kA)
def tabA (l:List Key):HObj := .cells [lstK l]
end Go.AM
namespace Go.AM
open Go
set_option maxRecDepth 20000
def cntK (k:Key):List Key→Nat
  | []=>0
  | p :: l=>(if cmpK p k≤0 then 1 else 0) + cntK k l
def ofK (pts:List Key) (k:Key):Int:=if goodK k then (cntK k pts:Int) else -1
end Go.AM
namespace Go.AM
open Go
open AV renaming undef → uu
set_option maxRecDepth 20000
theorem pad_set {s:List UInt8} {i:Nat} (h:i < s.length) (hs:s.length≤16):(bs (padB (s.take i))).set i (u8 s[i])=bs (padB (s.take (i + 1))):=by
  have e:∀(t:List UInt8),t.length≤16→padB t=t ++ List.replicate (16 - t.length) 0:=fun t ht=>by unfold padB; rw [List.take_of_length_le ht]
  rw [e _ (by simp; omega),e _ (by simp; omega)]
  have h1:(s.take i).length=i:=by simp; omega
  have h2:(s.take (i + 1)).length=i + 1:=by simp; omega
  rw [h1,h2,show 16 - i=(16 - (i + 1)) + 1 by omega,List.replicate_succ]
  simp only [bs,List.map_append,List.map_cons]
  rw [List.set_append_right _ _ (by rw [List.length_map,h1]; exact Nat.le_refl _)]
  simp only [List.length_map,h1,Nat.sub_self,List.set_cons_zero]
  rw [List.take_succ_eq_append_getElem h]
  simp only [List.map_append,List.map_cons,List.map_nil,List.append_assoc,List.cons_append,List.nil_append]
def OfR (C:CallW) (f:FuncId):Prop:=∀(s:List UInt8) (S:List (List AV)) (H:List HObj) (K:AV→St→Prop),K (.tup [.agg (bs (keyOf s).1.b),.bool (decide ((keyOf s).2=0))]) ⟨S,H⟩→C (.fn f) [.s (.str s)] ⟨S,H⟩ K
set_option maxHeartbeats 2000000 in
theorem ref10_Of_spec {C:CallW} (hC:LeC C C) (P:Program):∀(s:List UInt8) (S:List (List AV)) (H:List HObj) (K:AV→St→Prop),K (.tup [.agg (bs (keyOf s).1.b),.bool (decide ((keyOf s).2=0))]) ⟨S,H⟩→runL C P Czu [.s (.str s)] ⟨S,H⟩ K:=by
  intro s S H K hK
  have key0l:(bs key0.b).length=16:=rfl
  have bad:badT s→K (.tup [.agg (bs key0.b),.bool false]) ⟨S,H⟩:=fun h=>by
    rw [show keyOf s=(key0,1) from if_pos h] at hK; exact hK
  by_cases h0:s.length < 1
  · have h0':((s.length:Int) < 1):=by omega
    simp only [Czu,RUN_,u_C_hourglassref10_Of_k1.1,u_C_hourglassref10_Of_k2.1,u_C_hourglassref10_Of_k3.1,u_C_hourglassref10_Of_k4.1,u_C_hourglassref10_Of_k5.1,u_C_hourglassref10_Of_k6.1,u_C_hourglassref10_Of_k7.1,u_C_hourglassref10_Of_k8.1,u_C_hourglassref10_Of_k9.1,u_C_hourglassref10_Of_k10.1,FR_,simprocAttr,if_true,if_false,ite_true,ite_false,ne_eq,eq_self,OPK_,KEY_,h0']
    exact bad (.inl (List.length_eq_zero_iff.1 (by omega)))
  · have h0':¬((s.length:Int) < 1):=by omega
    by_cases h1:16 < s.length
    · have h1':(16:Int) < (s.length:Int):=by omega
      simp only [Czu,RUN_,u_C_hourglassref10_Of_k1.1,u_C_hourglassref10_Of_k2.1,u_C_hourglassref10_Of_k3.1,u_C_hourglassref10_Of_k4.1,u_C_hourglassref10_Of_k5.1,u_C_hourglassref10_Of_k6.1,u_C_hourglassref10_Of_k7.1,u_C_hourglassref10_Of_k8.1,u_C_hourglassref10_Of_k9.1,u_C_hourglassref10_Of_k10.1,FR_,simprocAttr,if_true,if_false,ite_true,ite_false,ne_eq,eq_self,OPK_,KEY_,h0',h1']
      exact bad (.inr (.inl h1))
    · have h1':¬((16:Int) < (s.length:Int)):=by omega
      simp only [Czu,RUN_,u_C_hourglassref10_Of_k1.1,u_C_hourglassref10_Of_k2.1,u_C_hourglassref10_Of_k3.1,u_C_hourglassref10_Of_k4.1,u_C_hourglassref10_Of_k5.1,u_C_hourglassref10_Of_k6.1,u_C_hourglassref10_Of_k7.1,u_C_hourglassref10_Of_k8.1,u_C_hourglassref10_Of_k9.1,u_C_hourglassref10_Of_k10.1,FR_,simprocAttr,if_true,if_false,ite_true,ite_false,ne_eq,eq_self,OPK_,KEY_,h0',h1']
      refine loop_rule hC (α:=Nat) (fun a=>s.length - a) (fun a=>[.s (.str s),.undef,.ptr (.stk S.length) 0,.undef,.ptr (.stk (S.length + 1)) 0,.s (.int .i64 a),uu,uu,uu,uu,uu,uu,uu,uu,uu,uu,uu,uu,uu,uu,uu,uu,uu,uu,uu,uu,uu,uu,uu,uu,uu,uu,uu]) (fun a=>S ++ [bs key0.b,bs (padB (s.take a))]) (fun _=>H) (fun i=>i≤s.length∧∀j,(hj:j < i)→(hj':j < s.length)→s[j]≠0) 0 ⟨by simp,fun j hj=>by omega⟩ rfl (by rw [app_take_add]; rfl) rfl (fun i hi=>by simp [AV.under,AV.under.go]) ?_
      rintro i ⟨hi,hall⟩ ih
      have hpl:∀t,(bs (padB t)).length=16:=fun t=>by rw [bs_length]; exact (padK t).h
      by_cases h16:i < s.length
      · have hlt:((i:Int) < (s.length:Int)):=by omega
        have h16':((i:Int) < 16):=by omega
        have hge:(0:Int)≤(i:Int):=by omega
        have hw:=wrap_succ (i:=i) (by omega)
        have hg:s.getD i 0=s[i]:=by simp [List.getD,h16]
        by_cases hz:s[i]=0
        · simp only [RUN_,u_C_hourglassref10_Of_k1.1,u_C_hourglassref10_Of_k2.1,u_C_hourglassref10_Of_k3.1,u_C_hourglassref10_Of_k4.1,u_C_hourglassref10_Of_k5.1,u_C_hourglassref10_Of_k6.1,u_C_hourglassref10_Of_k7.1,u_C_hourglassref10_Of_k8.1,u_C_hourglassref10_Of_k9.1,u_C_hourglassref10_Of_k10.1,FR_,simprocAttr,if_true,if_false,ite_true,ite_false,ne_eq,eq_self,OPK_,KEY_,hlt,hge,hg,hz,UInt8.toNat_zero,hpl]
          exact bad (.inr (.inr (hz▸List.getElem_mem h16)))
        · have hz':¬(((s[i]).toNat:Int)=0):=fun e=>hz (u8_zero.1 e)
          have hps:=pad_set h16 (by omega)
          have hi16:i < 16:=by omega
          unfold u8 at hps
          simp only [RUN_,u_C_hourglassref10_Of_k1.1,u_C_hourglassref10_Of_k2.1,u_C_hourglassref10_Of_k3.1,u_C_hourglassref10_Of_k4.1,u_C_hourglassref10_Of_k5.1,u_C_hourglassref10_Of_k6.1,u_C_hourglassref10_Of_k7.1,u_C_hourglassref10_Of_k8.1,u_C_hourglassref10_Of_k9.1,u_C_hourglassref10_Of_k10.1,FR_,simprocAttr,if_true,if_false,ite_true,ite_false,ne_eq,eq_self,OPK_,KEY_,hlt,hge,hg,hz',hpl,indexAddrL,h16',hw,Nat.mul_one,hi16,hps]
          exact ih (i + 1) _ _ _ (by omega) ⟨by omega,fun j hj hj'=>by
            rcases Nat.lt_or_ge j i with h | h
            · exact hall j h hj'
            · have:j=i:=by omega
              subst this; exact hz⟩ rfl (app_take_add _ _ _) rfl
      · have hlt:¬((i:Int) < (s.length:Int)):=by omega
        have hnb:¬badT s:=by
          rintro (h | h | h)
          · rw [h] at h0; exact h0 (by simp)
          · exact h1 h
          · obtain ⟨j,hj,e⟩:=List.getElem_of_mem h
            exact hall j (by omega) hj e
        have hp:padB (s.take i)=padB s:=by rw [List.take_of_length_le (by omega)]
        rw [show keyOf s=(padK s,0) from if_neg hnb] at hK
        have e2:(bs (padB s)).take 16=bs (padB s):=List.take_of_length_le (by rw [hpl]; omega)
        simp only [RUN_,u_C_hourglassref10_Of_k1.1,u_C_hourglassref10_Of_k2.1,u_C_hourglassref10_Of_k3.1,u_C_hourglassref10_Of_k4.1,u_C_hourglassref10_Of_k5.1,u_C_hourglassref10_Of_k6.1,u_C_hourglassref10_Of_k7.1,u_C_hourglassref10_Of_k8.1,u_C_hourglassref10_Of_k9.1,u_C_hourglassref10_Of_k10.1,FR_,simprocAttr,if_true,if_false,ite_true,ite_false,ne_eq,eq_self,OPK_,KEY_,hlt,hp,hpl,e2]
        exact hK
def kS (C:CallW) (f:FuncId):Prop:=∀(s:List UInt8) (S:List (List AV)) (H:List HObj) (K:AV→St→Prop),K (.agg (bs (keyOf s).1.b)) ⟨S,H⟩→C (.fn f) [.s (.str s)] ⟨S,H⟩ K
end Go.AM
namespace Go.AM
open Go
set_option maxRecDepth 20000
end Go.AM
namespace Go.AM
open Go
set_option maxRecDepth 20000
def lstI (l:List Nat):AV := .list .sh 1 (l.map fun (n:Nat)=>AV.i n)
def aboveK (l:List Key) (a:Key) (i:Nat):Bool:=match l[i]? with
  | some p=>decide (0 < cmpK p a)
  | none=>true
def belowK (l:List Key) (b:Key) (i:Nat):Bool:=decide (i=0) || decide (b=key0) || (match l[i - 1]? with
  | some p=>decide (cmpK p b < 0)
  | none=>true)
def covUp (l:List Key) (a b:Key) (n:Nat):List Nat:=(List.range n).filter fun i=>aboveK l a i && belowK l b i
def coverK (l:List Key) (a b:Key):List Nat:=if b≠key0∧cmpK b a≤0 then [] else covUp l a b (l.length + 1)
end Go.AM
namespace Go.AM
open Go
set_option maxRecDepth 20000
def WithinS (C:CallW) (f:FuncId):Prop:=∀(k a b:Key) S H K,K (.bool (withinK k a b)) ⟨S,H⟩→C (.fn f) [.agg (bs k.b),.agg (bs a.b),.agg (bs b.b)] ⟨S,H⟩ K
def Steps (c:List Nat):Prop:=∀i,0 < i→(h:i < c.length)→c[i]=c[i - 1] + 1
structure WholeP (pts:List Key) (a b fr to:Key):Prop where
  good:∀k,goodR k=true→goodK k=true
  lt:cntK a pts≤pts.length
  mono:cmpK a b≤0→cntK a pts≤cntK b pts
  cons:Steps (coverK pts fr to)
  small:∀x∈coverK pts fr to,x≤pts.length
  mem:withinK a fr to=true→cntK a pts∈coverK pts fr to
end Go.AM
namespace Go.AM
open Go
theorem cb_flip:∀(x y:List UInt8),Lib.compareBytes y x = - Lib.compareBytes x y
  | [],[]=>rfl
  | [],_ :: _=>rfl
  | _ :: _,[]=>rfl
  | a :: x,b :: y=>by
    simp only [Lib.compareBytes]
    by_cases h1:a < b
    · have h2:¬b < a:=fun h=>absurd (UInt8.lt_trans h1 h) (UInt8.lt_irrefl _)
      simp [h1,h2]
    · by_cases h2:b < a
      · simp [h1,h2]
      · simp only [h1,h2,if_false]; exact cb_flip x y
theorem cb_trans:∀(x y z:List UInt8),Lib.compareBytes x y≤0→Lib.compareBytes y z≤0→Lib.compareBytes x z≤0∧(Lib.compareBytes x y < 0∨Lib.compareBytes y z < 0→Lib.compareBytes x z < 0)
  | [],[],[],_,_=>by simp [Lib.compareBytes]
  | [],[],_ :: _,_,_=>by simp [Lib.compareBytes]
  | [],_ :: _,[],_,h=>by simp [Lib.compareBytes] at h
  | [],_ :: _,_ :: _,_,_=>by simp [Lib.compareBytes]
  | _ :: _,[],_,h,_=>by simp [Lib.compareBytes] at h
  | _ :: _,_ :: _,[],_,h=>by simp [Lib.compareBytes] at h
  | a :: x,b :: y,c :: z,h1,h2=>by
    simp only [Lib.compareBytes] at h1 h2 ⊢
    rcases Nat.lt_trichotomy a.toNat b.toNat with hab | hab | hab
    · have e1:a < b:=UInt8.lt_iff_toNat_lt.2 hab
      rcases Nat.lt_trichotomy b.toNat c.toNat with hbc | hbc | hbc
      · have:a < c:=UInt8.lt_iff_toNat_lt.2 (by omega)
        simp [this]
      · have:a < c:=UInt8.lt_iff_toNat_lt.2 (by omega)
        simp [this]
      · have e2:c < b:=UInt8.lt_iff_toNat_lt.2 hbc
        have e3:¬b < c:=fun h=>by have:=UInt8.lt_iff_toNat_lt.1 h; omega
        simp [e2,e3] at h2
    · have e1:a=b:=UInt8.toNat_inj.1 hab
      subst e1
      have e0:¬a < a:=UInt8.lt_irrefl a
      simp only [e0,if_false] at h1 ⊢
      rcases Nat.lt_trichotomy a.toNat c.toNat with hbc | hbc | hbc
      · have:a < c:=UInt8.lt_iff_toNat_lt.2 hbc
        simp [this]
      · have e2:a=c:=UInt8.toNat_inj.1 hbc
        subst e2
        simp only [e0,if_false] at h2 ⊢
        exact cb_trans x y z h1 h2
      · have e2:c < a:=UInt8.lt_iff_toNat_lt.2 hbc
        have e3:¬a < c:=fun h=>by have:=UInt8.lt_iff_toNat_lt.1 h; omega
        simp [e2,e3] at h2
    · have e1:b < a:=UInt8.lt_iff_toNat_lt.2 hab
      have e3:¬a < b:=fun h=>by have:=UInt8.lt_iff_toNat_lt.1 h; omega
      simp [e1,e3] at h1
theorem cmp_flip (a b:Key):cmpK b a = - cmpK a b:=cb_flip _ _
theorem cmp_le {a b c:Key} (h1:cmpK a b≤0) (h2:cmpK b c≤0):cmpK a c≤0:=(cb_trans _ _ _ h1 h2).1
theorem cmp_lt {a b c:Key} (h1:cmpK a b < 0) (h2:cmpK b c≤0):cmpK a c < 0:=(cb_trans _ _ _ (by unfold cmpK at h1; omega) h2).2 (.inl h1)
end Go.AM
namespace Go.AM
open Go
open AV renaming undef → uu
set_option maxRecDepth 20000
def GoodWS (C:CallW) (f:FuncId):Prop:=∀(l:List Wr) S H (K:AV→St→Prop),l.length≤9223372036854775807→(∀G,K (.bool (sgood [] l)) ⟨S,H ++ G⟩)→C (.fn f) [lstW l] ⟨S,H⟩ K
set_option maxHeartbeats 8000000 in
theorem store_Good_spec {C:CallW} (hC:LeC C C) (P:Program) {c:Nat→FuncId} (h0:BoolK goodK C (c 0)):∀(l:List Wr) S H (K:AV→St→Prop),l.length≤9223372036854775807→(∀G,K (.bool (sgood [] l)) ⟨S,H ++ G⟩)→runL C P (Cz2o c) [lstW l] ⟨S,H⟩ K:=by
  intro l S H K hl hK
  simp only [lstW,Cz2o,A_,simprocAttr,ne_eq,(Uzr _).1]
  refine loop_rule hC (α:=Nat) (fun a=>l.length - a) (fun a=>[uu,uu,uu,.map H.length,uu,uu,uu,.list .sh 18 (l.map wA),.s (.int .i64 l.length),.s (.int .i64 a),uu,uu,uu,uu,uu,uu,uu,uu,uu,uu,uu,uu,uu,uu,uu,uu,uu,uu,uu,uu,uu,uu,uu,uu,uu,uu,uu,uu,uu,uu,uu,uu]) (fun _=>S) (fun a=>H ++ [.map (seenE ((l.take a).map Wr.key)) a]) (fun a=>a≤l.length∧sgood [] l=sgood ((l.take a).map Wr.key) (l.drop a)) 0 ⟨by simp,by simp⟩ rfl (by simp) rfl (fun a _=>by simp [AV.under,AV.under.go]) ?_
  rintro i ⟨hi,hinv⟩ ih
  by_cases h16:i < l.length
  · have hlt:((i:Int) < (l.length:Int)):=by omega
    have hw:IntKind.i64.wrap ((i:Int) + 1)=(i:Int) + 1:=wrap_i64 (by omega) (by omega)
    have htk:(l.take (i + 1)).map Wr.key=(l.take i).map Wr.key ++ [(l[i]).key]:=by rw [List.take_succ_eq_append_getElem h16,List.map_append]; rfl
    rw [List.drop_eq_getElem_cons h16,sgood,←htk] at hinv
    simp only [A_,simprocAttr,ne_eq,(Uzr _).1,hlt,h16]
    refine h0 _ _ _ _ ?_
    cases e1:goodK (l[i]).key with
    | false =>
      rw [if_pos e1] at hinv
      rw [hinv] at hK
      simp only [A_,simprocAttr,ne_eq,(Uzr _).1]
      exact hK _
    | true =>
      rw [if_neg (by simp [e1])] at hinv
      simp only [A_,simprocAttr,ne_eq,(Uzr _).1,look_seen]
      by_cases e2:(l[i]).key∈(l.take i).map Wr.key
      · rw [if_pos e2] at hinv
        rw [hinv] at hK
        simp only [A_,simprocAttr,ne_eq,(Uzr _).1,e2]
        exact hK _
      · rw [if_neg e2] at hinv
        have hup:=upd_seen (S:=S ++ [wc l[i]]) (H:=H) (n:=i) e2 (by simp; omega)
        rw [←htk] at hup
        by_cases e3:200 < (l[i]).val.length
        · have e3':((200:Int) < ((l[i]).val.length:Int)):=by omega
          rw [if_pos e3] at hinv
          rw [hinv] at hK
          simp only [A_,simprocAttr,ne_eq,(Uzr _).1,e2,e3']
          exact hK _
        · have e3':¬((200:Int) < ((l[i]).val.length:Int)):=by omega
          rw [if_neg e3] at hinv
          cases e4:(l[i]).gone with
          | false =>
            rw [if_neg (by simp [e4])] at hinv
            simp only [A_,simprocAttr,ne_eq,(Uzr _).1,e2,e3',e4,hup,hw]
            exact ih (i + 1) _ _ _ (by omega) ⟨by omega,hinv⟩ rfl (by simp) rfl
          | true =>
            by_cases e5:(l[i]).val=[]
            · rw [if_neg (by simp [e5])] at hinv
              have e5':=eq_true e5
              simp only [A_,simprocAttr,ne_eq,(Uzr _).1,e2,e3',e4,e5',hup,hw]
              exact ih (i + 1) _ _ _ (by omega) ⟨by omega,hinv⟩ rfl (by simp) rfl
            · rw [if_pos ⟨e4,e5⟩] at hinv
              rw [hinv] at hK
              simp only [A_,simprocAttr,ne_eq,(Uzr _).1,e2,e3',e4,e5]
              exact hK _
  · have hlt:¬((i:Int) < (l.length:Int)):=by omega
    rw [List.drop_of_length_le (by omega)] at hinv
    rw [hinv] at hK
    simp only [A_,simprocAttr,ne_eq,(Uzr _).1,hlt]
    exact hK _
end Go.AM
namespace Go.AM
open Go
set_option maxRecDepth 20000
end Go.AM
namespace Go.AM
open Go
set_option maxRecDepth 20000
end Go.AM
namespace Go.AM
open Go
set_option maxRecDepth 20000
end Go.AM
namespace Go.AM
open Go
set_option maxRecDepth 20000
end Go.AM
namespace Go.AM
open Go
set_option maxRecDepth 20000
def restLe (a b:Rd):Prop:=∀q,b=some q→∃p,a=some p∧q.length≤p.length
theorem restLe.refl (a:Rd):restLe a a:=fun q h=>⟨q,h,Nat.le_refl _⟩
theorem restLe.trans {a b c:Rd} (h:restLe a b) (h2:restLe b c):restLe a c:=fun q hq=>by
  obtain ⟨p,hp,hl⟩:=h2 q hq
  obtain ⟨p2,hp2,hl2⟩:=h p hp
  exact ⟨p2,hp2,by omega⟩
end Go.AM
namespace Go.AM
open Go
set_option maxRecDepth 20000
end Go.AM
namespace Go.AM
open Go
set_option maxRecDepth 20000
end Go.AM
namespace Go.AM
open Go
structure Rec where
  kind:Int
  id:Int
  snap:Stp
  stamp:Stp
  writes:List Wr
  yes:Bool
  parts:List Int
  deriving DecidableEq
def okR (r:Rec):Prop:=r.writes.length≤9223372036854775807∧r.parts.length≤9223372036854775807
end Go.AM
namespace Go.AM
open Go
set_option maxRecDepth 20000
end Go.AM
namespace Go.AM
open Go
set_option maxRecDepth 20000
end Go.AM
namespace Go.AM
open Go
set_option maxRecDepth 20000
end Go.AM
namespace Go.AM
open Go
set_option maxRecDepth 20000
def CmpSS (C:CallW) (f:FuncId):Prop:=∀(a b:Stp),FnS C f [.agg (stc a),.agg (stc b)] (.i (cmpS a b))
end Go.AM
namespace Go.AM
open Go
set_option maxRecDepth 20000
structure Ent where
  id:Int
  snap:Stp
  stamp:Stp
  writes:List Wr
def enc (e:Ent):List AV:=[.s (.int .i64 e.id),.s (.int .i64 e.snap.t),u8 e.snap.n,.s (.int .i64 e.stamp.t),u8 e.stamp.n,.list .sh 18 (e.writes.map wA)]
theorem store_Many_spec {C:CallW} (P:Program):∀(l:List Wr) S H (K:AV→St→Prop),K (.bool (decide (1≤l.length) && decide (l.length≤16))) ⟨S,H⟩→runL C P Cz1r [lstW l] ⟨S,H⟩ K:=by
  intro l S H K hK
  by_cases h1:1≤l.length
  · have h1':((1:Int)≤(l.length:Int)):=by omega
    by_cases h2:l.length≤16
    · have h2':((l.length:Int)≤16):=by omega
      rw [decide_eq_true h1,decide_eq_true h2] at hK
      simp only [lstW,Cz1r,A_,simprocAttr,ne_eq,Uz2p.1,h1',h2']
      exact hK
    · have h2':¬((l.length:Int)≤16):=by omega
      rw [decide_eq_true h1,decide_eq_false h2] at hK
      simp only [lstW,Cz1r,A_,simprocAttr,ne_eq,Uz2p.1,h1',h2']
      exact hK
  · have h1':¬((1:Int)≤(l.length:Int)):=by omega
    rw [decide_eq_false h1,Bool.false_and] at hK
    simp only [lstW,Cz1r,A_,simprocAttr,ne_eq,Uz2p.1,h1']
    exact hK
def WkK (K:AV→St→Prop):AV→St→Prop:=fun v s=>∃b,(b=v∨WkL [v.sh] [b])∧K b s
end Go.AM
namespace Go.AM
open Go
set_option maxRecDepth 20000
set_option linter.unusedSectionVars false
structure KeyK {κ:Type} [DecidableEq κ] (kk:KK) (kf:κ→AV):Prop where
  fits:∀a,kk.fits (kf a)=true
  eq:∀a b,AV.beq (kf a) (kf b)=decide (a=b)
theorem keyK_int:KeyK (.one (.int .i64)) iA:=⟨fun a=>rfl,fun a b=>by simp [iA,AV.beq]⟩
theorem keyK_key:KeyK (.leaf lk) kA:=⟨fun a=>by simp only [KK.fits,kA,fits_k],fun a b=>by simp only [kA,AV.beq,beq_kk]⟩
section
variable {κ β:Type} [DecidableEq κ] {kk:KK} {kf:κ→AV} {kp:β→κ} {vf:β→AV}
def RelM (kf:κ→AV) (kp:β→κ) (vf:β→AV) (es:List Entry) (l:List β):Prop:=es.map (fun e=>(e.key,e.val))=l.map fun x=>(kf (kp x),vf x)
structure MapG (kf:κ→AV) (kp:β→κ) (vf:β→AV) (es:List Entry) (c:Nat) (l:List β):Prop where
  rel:RelM kf kp vf es l
  nd:(es.map (·.born)).Nodup
  lt:∀e∈es,e.born < c
def getB (kp:β→κ) (l:List β) (k:κ):Option β:=l.find? fun x=>decide (kp x=k)
theorem find_none (hK:KeyK kk kf):∀{es:List Entry} {l:List β} {k:κ} {i:Nat},RelM kf kp vf es l→(∀x∈l,kp x≠k)→findL kk (kf k) es i=some none
  | [],[],k,i,_,_=>rfl
  | [],x :: l,k,i,h,_=>by cases h
  | e :: es,[],k,i,h,_=>by cases h
  | e :: es,x :: l,k,i,h,hk=>by
    unfold RelM at h
    simp only [List.map_cons,List.cons.injEq,Prod.mk.injEq] at h
    have hq:keyEqL kk (kf k) e.key=some false:=by
      rw [h.1.1]
      simp only [keyEqL,hK.fits,and_self,if_true,hK.eq]
      rw [decide_eq_false fun e=>hk x List.mem_cons_self e.symm]
    rw [findL,hq]
    exact find_none hK h.2 fun y hy=>hk y (List.mem_cons_of_mem _ hy)
theorem find_some (hK:KeyK kk kf):∀{es:List Entry} {l:List β} {k:κ} {x:β} {i:Nat},RelM kf kp vf es l→getB kp l k=some x→∃j e,j < l.length∧l[j]? = some x∧es[j]? = some e∧e.val=vf x∧kp x=k∧(∀m,m < j→∀y,l[m]? = some y→kp y≠k)∧findL kk (kf k) es i=some (some (i + j,e))
  | [],[],k,x,i,_,h2=>by cases h2
  | [],y :: l,k,x,i,h,_=>by cases h
  | e :: es,[],k,x,i,h,_=>by cases h
  | e :: es,y :: l,k,x,i,h,h2=>by
    unfold RelM at h
    simp only [List.map_cons,List.cons.injEq,Prod.mk.injEq] at h
    unfold getB at h2
    rw [List.find?_cons] at h2
    by_cases hy:kp y=k
    · rw [decide_eq_true hy] at h2
      have hxy:y=x:=by simpa using h2
      subst hxy
      have hq:keyEqL kk (kf k) e.key=some true:=by
        rw [h.1.1]
        simp only [keyEqL,hK.fits,and_self,if_true,hK.eq]
        rw [decide_eq_true hy.symm]
      refine ⟨0,e,by simp,rfl,rfl,h.1.2,hy,fun m hm=>by omega,?_⟩
      rw [findL,hq]; rfl
    · rw [decide_eq_false hy] at h2
      have hq:keyEqL kk (kf k) e.key=some false:=by
        rw [h.1.1]
        simp only [keyEqL,hK.fits,and_self,if_true,hK.eq]
        rw [decide_eq_false fun e=>hy e.symm]
      obtain ⟨j,e',q1,q2,q3,q4,q5,q6,q7⟩:=find_some hK (i:=i + 1) h.2 h2
      refine ⟨j + 1,e',by simpa using q1,by simpa using q2,by simpa using q3,q4,q5,fun m hm z hz => ?_,?_⟩
      · cases m with
        | zero => have : y = z := by simpa using hz
                  subst this; exact hy
        | succ m=>exact q6 m (by omega) z (by simpa using hz)
      · rw [findL,hq]
        show findL kk (kf k) es (i + 1)=_
        rw [q7]
        congr 3; omega
theorem getB_none {l:List β} {k:κ} (h:getB kp l k=none):∀x∈l,kp x≠k:=by
  unfold getB at h
  rw [List.find?_eq_none] at h
  exact fun x hx e=>h x hx (decide_eq_true e)
def lookR (vf:β→AV) (z:AV) (ok:Bool):Option β→AV
  | some x=>if ok then .tup [vf x,.bool true] else vf x
  | none=>if ok then .tup [z,.bool false] else z
theorem map_look (hK:KeyK kk kf) {S:List (List AV)} {H:List HObj} {h c:Nat} {es:List Entry} {l:List β} {k:κ} {z:AV} {ok:Bool} (hm:H[h]? = some (.map es c)) (hR:RelM kf kp vf es l):lookupL kk z ok (.map h) (kf k) ⟨S,H⟩=some (lookR vf z ok (getB kp l k)):=by
  have hmo:mapOf ⟨S,H⟩ (.map h)=some (es,c):=by simp [mapOf,hm]
  simp only [lookupL,hK.fits,if_true,hmo]
  cases hg:getB kp l k with
  | none=>rw [find_none hK hR (getB_none hg)]; rfl
  | some x =>
    obtain ⟨j,e,q1,q2,q3,q4,q5,q6,q7⟩:=find_some hK (i:=0) hR hg
    rw [q7]
    simp only [q4,lookR]
theorem map_new (hK:KeyK kk kf) {S:List (List AV)} {H:List HObj} {h c:Nat} {es:List Entry} {l:List β} {k:κ} {v:AV} (hm:H[h]? = some (.map es c)) (hR:RelM kf kp vf es l) (hk:∀x∈l,kp x≠k) (hv:AV.under 0 v=true):updateL kk (.map h) (kf k) v ⟨S,H⟩=some ⟨S,H.set h (.map (es ++ [⟨kf k,v,c⟩]) (c + 1))⟩:=by
  have hmo:mapOf ⟨S,H⟩ (.map h)=some (es,c):=by simp [mapOf,hm]
  simp only [updateL,hK.fits,hv,and_self,if_true,hmo,find_none hK hR hk]
  rfl
theorem MapG.new {es:List Entry} {c:Nat} {l:List β} {x:β} (h:MapG kf kp vf es c l):MapG kf kp vf (es ++ [⟨kf (kp x),vf x,c⟩]) (c + 1) (l ++ [x]):=by
  obtain ⟨h1,h2,h3⟩:=h
  refine ⟨?_,?_,?_⟩
  · unfold RelM at h1 ⊢
    rw [List.map_append,List.map_append,h1]; rfl
  · rw [List.map_append,List.nodup_append]
    refine ⟨h2,by simp,fun a ha b hb => ?_⟩
    simp only [List.map_cons,List.map_nil,List.mem_singleton] at hb
    rw [List.mem_map] at ha
    obtain ⟨e,he,rfl⟩:=ha
    have:=h3 e he
    omega
  · intro e he
    rcases List.mem_append.1 he with he | he
    · have:=h3 e he; omega
    · simp only [List.mem_singleton] at he; subst he; exact Nat.lt_succ_self _
theorem MapG.del (hK:KeyK kk kf) {H:List HObj} {h c:Nat} {es:List Entry} {l:List β} {k:κ} (hm:H[h]? = some (.map es c)) (hG:MapG kf kp vf es c l) (hnd:(l.map kp).Nodup):∃es',(∀S:List (List AV),deleteL kk (.map h) (kf k) ⟨S,H⟩=some ⟨S,H.set h (.map es' c)⟩)∧MapG kf kp vf es' c (l.filter fun x=>decide (kp x≠k)):=by
  have hmo:∀S,mapOf ⟨S,H⟩ (.map h)=some (es,c):=fun S=>by simp [mapOf,hm]
  obtain ⟨hR,h2,h3⟩:=hG
  simp only [deleteL,hK.fits,if_true,hmo]
  cases hg:getB kp l k with
  | none =>
    refine ⟨es,fun S=>by rw [find_none hK hR (getB_none hg)]; rfl,?_,h2,h3⟩
    rw [List.filter_eq_self.2 fun x hx=>decide_eq_true (getB_none hg x hx)]
    exact hR
  | some x =>
    obtain ⟨j,e,q1,q2,q3,q4,q5,q6,q7⟩:=find_some hK (i:=0) hR hg
    refine ⟨es.eraseIdx j,fun S=>by rw [q7,Nat.zero_add]; rfl,?_,?_,?_⟩
    · have hf:l.filter (fun x=>decide (kp x≠k))=l.eraseIdx j:=by
        rw [List.eraseIdx_eq_take_drop_succ]
        have hl:l=l.take j ++ l[j] :: l.drop (j + 1):=by rw [List.getElem_cons_drop,List.take_append_drop]
        have hx:l[j]=x:=by rw [List.getElem?_eq_getElem q1] at q2; exact Option.some.inj q2
        conv=>lhs; rw [hl]
        rw [List.filter_append,List.filter_cons,hx,if_neg (by simp [q5])]
        congr 1
        · refine List.filter_eq_self.2 fun y hy=>decide_eq_true ?_
          obtain ⟨m,hm,rfl⟩:=List.mem_iff_getElem.1 hy
          rw [List.length_take] at hm
          rw [List.getElem_take]
          exact q6 m (by omega) _ (List.getElem?_eq_getElem (by omega))
        · refine List.filter_eq_self.2 fun y hy=>decide_eq_true ?_
          obtain ⟨m,hm,rfl⟩:=List.mem_iff_getElem.1 hy
          rw [List.length_drop] at hm
          rw [List.getElem_drop]
          intro hy2
          have h5:=List.pairwise_iff_getElem.1 hnd j (j + 1 + m) (by simpa using q1) (by simp; omega) (by omega)
          rw [List.getElem_map,List.getElem_map,hx,q5,hy2] at h5
          exact h5 rfl
      rw [hf]
      unfold RelM at hR ⊢
      rw [List.eraseIdx_eq_take_drop_succ,List.eraseIdx_eq_take_drop_succ,List.map_append,List.map_append,List.map_take,List.map_take,List.map_drop,List.map_drop,hR]
    · exact h2.sublist ((List.eraseIdx_sublist es j).map _)
    · exact fun e he=>h3 e ((List.eraseIdx_sublist es j).mem he)
end
end Go.AM
namespace Go.AM
open Go
set_option maxRecDepth 20000
set_option linter.unusedSectionVars false
section
variable {κ β:Type} [DecidableEq κ] {kk:KK} {kf:κ→AV} {kp:β→κ} {vf:β→AV}
def putM (kp:β→κ) (l:List β) (x:β):List β:=match getB kp l (kp x) with
  | some _=>l.map fun y=>if kp y=kp x then x else y
  | none=>l ++ [x]
theorem MapG.upd (hK:KeyK kk kf) {H:List HObj} {h c:Nat} {es:List Entry} {l:List β} {x:β} (hm:H[h]? = some (.map es c)) (hG:MapG kf kp vf es c l) (hnd:(l.map kp).Nodup) (hv:AV.under 0 (vf x)=true):∃es' c',(∀S:List (List AV),updateL kk (.map h) (kf (kp x)) (vf x) ⟨S,H⟩=some ⟨S,H.set h (.map es' c')⟩)∧MapG kf kp vf es' c' (putM kp l x):=by
  unfold putM
  cases hg:getB kp l (kp x) with
  | none =>
    exact ⟨_,_,fun S=>map_new hK (S:=S) (v:=vf x) hm hG.rel (getB_none hg) hv,hG.new⟩
  | some y =>
    have hmo:∀S,mapOf ⟨S,H⟩ (.map h)=some (es,c):=fun S=>by simp [mapOf,hm]
    obtain ⟨hR,h2,h3⟩:=hG
    obtain ⟨j,e,q1,q2,q3,q4,q5,q6,q7⟩:=find_some hK (i:=0) hR hg
    have hlen:es.length=l.length:=by have:=congrArg List.length hR; simpa [RelM] using this
    have hb:(es.set j { e with key:=kf (kp x),val:=vf x }).map (·.born)=es.map (·.born):=by
      refine List.ext_getElem? fun i => ?_
      rw [List.getElem?_map,List.getElem?_map]
      by_cases hi:j=i
      · subst hi
        rw [List.getElem?_set_self (by omega),q3]; rfl
      · rw [List.getElem?_set_ne hi]
    refine ⟨es.set j { e with key:=kf (kp x),val:=vf x },c,fun S => ?_,?_,?_,?_⟩
    · simp only [updateL,hK.fits,hv,and_self,if_true,hmo,q7,Nat.zero_add]; rfl
    · unfold RelM at hR ⊢
      refine List.ext_getElem? fun i => ?_
      have hRi:=congrArg (fun z:List (AV×AV)=>z[i]?) hR
      rw [List.getElem?_map,List.getElem?_map] at hRi ⊢
      rw [List.getElem?_map]
      by_cases hi:j=i
      · subst hi
        rw [List.getElem?_set_self (by omega),q2]
        simp only [Option.map_some,if_pos q5]
      · rw [List.getElem?_set_ne hi,hRi]
        cases hli:l[i]? with
        | none=>rfl
        | some z =>
          have:kp z≠kp x:=by
            intro hz
            have hi2:i < l.length:=(List.getElem?_eq_some_iff.1 hli).1
            have:=List.pairwise_iff_getElem.1 hnd
            have e1:(l.map kp)[j]'(by simpa using q1)=kp x:=by rw [List.getElem_map]; rw [List.getElem?_eq_getElem q1] at q2; rw [Option.some.inj q2]; exact q5
            have e2:(l.map kp)[i]'(by simpa using hi2)=kp x:=by rw [List.getElem_map]; rw [List.getElem?_eq_getElem hi2] at hli; rw [Option.some.inj hli]; exact hz
            rcases Nat.lt_or_gt_of_ne hi with h | h
            · exact this j i (by simpa using q1) (by simpa using hi2) h (e1.trans e2.symm)
            · exact this i j (by simpa using hi2) (by simpa using q1) h (e2.trans e1.symm)
          simp only [Option.map_some,if_neg this]
    · rw [hb]; exact h2
    · intro e' he
      obtain ⟨i,hi,rfl⟩:=List.mem_iff_getElem.1 he
      have hb2:=congrArg (fun z:List Nat=>z[i]?) hb
      rw [List.getElem?_map,List.getElem?_map,List.getElem?_eq_getElem hi] at hb2
      rw [List.length_set] at hi
      rw [List.getElem?_eq_getElem hi] at hb2
      have hb3:((es.set j { e with key:=kf (kp x),val:=vf x })[i]'(by simpa using hi)).born=es[i].born:=Option.some.inj hb2
      rw [hb3]
      exact h3 _ (List.getElem_mem hi)
theorem putM_same {l:List β} {x:β} (hnd:(l.map kp).Nodup) (hx:x∈l):putM kp l x=l:=by
  have hself:∃y,getB kp l (kp x)=some y:=by
    cases hg:getB kp l (kp x) with
    | none=>exact absurd rfl (getB_none hg x hx)
    | some y=>exact ⟨y,rfl⟩
  obtain ⟨y,hy⟩:=hself
  unfold putM
  rw [hy]
  have:∀m:List β,(m.map kp).Nodup→x∈m→(m.map fun y=>if kp y=kp x then x else y)=m:=by
    intro m
    induction m with
    | nil=>intro _ h; cases h
    | cons z m ih =>
      intro hn hm
      rw [List.map_cons,List.nodup_cons] at hn
      rw [List.map_cons]
      rcases List.mem_cons.1 hm with rfl | hm
      · rw [if_pos rfl]
        congr 1
        refine (List.map_congr_left fun a ha => ?_).trans (List.map_id m)
        rw [if_neg fun e:kp a=kp x=>hn.1 (e▸List.mem_map_of_mem ha)]; rfl
      · rw [ih hn.2 hm,if_neg fun e:kp z=kp x=>hn.1 (e▸List.mem_map_of_mem hm)]
  exact this l hnd hx
theorem putM_new {l:List β} {x:β} (h:∀y∈l,kp y≠kp x):putM kp l x=l ++ [x]:=by
  unfold putM
  have:getB kp l (kp x)=none:=by
    unfold getB
    rw [List.find?_eq_none]
    exact fun y hy=>by simpa using h y hy
  rw [this]
end
end Go.AM
namespace Go.AM
open Go
set_option maxRecDepth 20000
structure VSt where
  best:Wr
  top:Stp
  found:Bool
end Go.AM
namespace Go.AM
open Go
set_option maxRecDepth 20000
end Go.AM
namespace Go.AM
open Go
set_option maxRecDepth 20000
end Go.AM
namespace Go.AM
open Go
theorem cmpS_refl (a:Stp):cmpS a a=0:=by unfold cmpS; simp [UInt8.lt_irrefl]
theorem cmpS_flip (a b:Stp):cmpS b a = - cmpS a b:=by
  unfold cmpS
  have hu:∀x y:UInt8,x < y→¬y < x:=fun x y h h'=>by rw [UInt8.lt_iff_toNat_lt] at h h'; omega
  by_cases h1:a.t < b.t
  · have:¬b.t < a.t:=by omega
    simp [h1,this]
  · by_cases h2:b.t < a.t
    · simp [h1,h2]
    · by_cases h3:a.n < b.n
      · simp [h1,h2,h3,hu _ _ h3]
      · by_cases h4:b.n < a.n
        · simp [h1,h2,h3,h4]
        · simp [h1,h2,h3,h4]
theorem cmpS_zero {a b:Stp} (h:cmpS a b=0):a=b:=by
  unfold cmpS at h
  by_cases h1:a.t < b.t
  · simp [h1] at h
  · by_cases h2:b.t < a.t
    · simp [h1,h2] at h
    · by_cases h3:a.n < b.n
      · simp [h1,h2,h3] at h
      · by_cases h4:b.n < a.n
        · simp [h1,h2,h3,h4] at h
        · cases a; cases b
          rw [UInt8.lt_iff_toNat_lt] at h3 h4
          dsimp only at *
          rw [Stp.mk.injEq]
          exact ⟨by omega,UInt8.toNat_inj.1 (by omega)⟩
theorem cmpS_trans {a b c:Stp} (h1:cmpS a b≤0) (h2:cmpS b c≤0):cmpS a c≤0:=by
  unfold cmpS at *
  simp only [UInt8.lt_iff_toNat_lt] at *
  repeat' split at h1
  all_goals repeat' split at h2
  all_goals repeat' split
  all_goals omega
end Go.AM
namespace Go.AM
open Go
set_option maxRecDepth 20000
structure Ver where
  st:Stp
  val:List UInt8
  gone:Bool
  deriving DecidableEq
def verc (v:Ver):List AV:=[.s (.int .i64 v.st.t),u8 v.st.n,.s (.str v.val),.s (.bool v.gone)]
def verA (v:Ver):AV := .agg (verc v)
def lstV (l:List Ver):AV := .list .sh 4 (l.map verA)
def chK (l:List Ver):AV:=match l with
  | [] => .s .nilS
  | l => .list .uniq 4 (l.map verA)
def SorV (l:List Ver):Prop:=l.Pairwise fun a b=>cmpS a.st b.st < 0
def idxV (l:List Ver) (s:Stp):Nat:=(l.takeWhile fun v=>decide (cmpS v.st s < 0)).length
def hasV (l:List Ver) (s:Stp):Bool:=l.any fun v=>decide (v.st=s)
def untV (l:List Ver) (s:Stp):Nat:=(l.takeWhile fun v=>decide (cmpS v.st s≤0)).length
def atV (l:List Ver) (s:Stp):Option Ver:=(l.take (untV l s)).getLast?
def insV (l:List Ver) (v:Ver):List Ver:=l.take (idxV l v.st) ++ v :: l.drop (idxV l v.st)
def okV (v:Ver):Bool:=goodS v.st && decide (v.val.length≤200) && !(v.gone && !v.val.isEmpty)
def putV (l:List Ver) (v:Ver):Int×List Ver:=if okV v=false then (1,l) else if hasV l v.st=true then (5,l) else if 50≤l.length then (6,l) else (0,insV l v)
def cutV (l:List Ver) (s:Stp):Nat:=match atV l s with
  | some v=>if v.gone=true then untV l s else untV l s - 1
  | none=>untV l s
theorem cmpS_lt_le {a b c:Stp} (h1:cmpS a b < 0) (h2:cmpS b c≤0):cmpS a c < 0:=by
  have h3:=cmpS_trans (Int.le_of_lt h1) h2
  rcases Int.lt_or_eq_of_le h3 with h | h
  · exact h
  · have:=cmpS_zero h
    subst this
    have:=cmpS_flip a b
    omega
theorem cmpS_eq0 {a b:Stp}:cmpS a b=0↔a=b:=⟨cmpS_zero,fun h=>by subst h; exact cmpS_refl a⟩
theorem tw_get {α:Type} {p:α→Bool}:∀{l:List α},(l.Pairwise fun a b=>p b=true→p a=true)→∀{i:Nat} (h:i < l.length),(i < (l.takeWhile p).length↔p l[i]=true)
  | [],_,i,h=>by simp at h
  | x :: l,hp,i,h=>by
    rw [List.pairwise_cons] at hp
    rw [List.takeWhile_cons]
    cases hx:p x with
    | false =>
      simp only [Bool.false_eq_true,if_false,List.length_nil,Nat.not_lt_zero,false_iff]
      cases i with
      | zero=>simp [hx]
      | succ i =>
        intro q
        have:=hp.1 _ (List.getElem_mem (by simpa using h:i < l.length)) (by simpa using q)
        rw [hx] at this; cases this
    | true =>
      simp only [if_true,List.length_cons]
      cases i with
      | zero=>simp [hx]
      | succ i =>
        rw [Nat.add_lt_add_iff_right,tw_get hp.2 (by simpa using h)]
        simp
theorem SorV.lt {l:List Ver} (h:SorV l) (s:Stp):l.Pairwise fun a b=>decide (cmpS b.st s < 0)=true→decide (cmpS a.st s < 0)=true :=
  h.imp fun hab q=>decide_eq_true (cmpS_lt_le hab (Int.le_of_lt (of_decide_eq_true q)))
theorem SorV.le {l:List Ver} (h:SorV l) (s:Stp):l.Pairwise fun a b=>decide (cmpS b.st s≤0)=true→decide (cmpS a.st s≤0)=true :=
  h.imp fun hab q=>decide_eq_true (Int.le_of_lt (cmpS_lt_le hab (of_decide_eq_true q)))
theorem idx_lt {l:List Ver} (h:SorV l) {s:Stp} {i:Nat} (hi:i < l.length):i < idxV l s↔cmpS l[i].st s < 0:=(tw_get (h.lt s) hi).trans decide_eq_true_iff
theorem unt_lt {l:List Ver} (h:SorV l) {s:Stp} {i:Nat} (hi:i < l.length):i < untV l s↔cmpS l[i].st s≤0:=(tw_get (h.le s) hi).trans decide_eq_true_iff
theorem tw_le {α:Type} (p:α→Bool) (l:List α):(l.takeWhile p).length≤l.length:=(List.takeWhile_sublist p).length_le
theorem idx_le (l:List Ver) (s:Stp):idxV l s≤l.length:=tw_le _ _
theorem unt_le (l:List Ver) (s:Stp):untV l s≤l.length:=tw_le _ _
theorem has_iff {l:List Ver} (h:SorV l) (s:Stp):hasV l s=true↔∃hi:idxV l s < l.length,cmpS l[idxV l s].st s=0:=by
  unfold hasV
  rw [List.any_eq_true]
  constructor
  · rintro ⟨v,hv,e⟩
    have e:=of_decide_eq_true e
    obtain ⟨i,hi,rfl⟩:=List.mem_iff_getElem.1 hv
    have h1:¬i < idxV l s:=by rw [idx_lt h hi,e,cmpS_refl]; omega
    have h2:∀j,j < i→j < idxV l s:=fun j hj=>by
      rw [idx_lt h (by omega)]
      have:=List.pairwise_iff_getElem.1 h j i (by omega) hi hj
      rwa [e] at this
    have h3:idxV l s=i:=by
      rcases Nat.lt_trichotomy (idxV l s) i with q | q | q
      · exact absurd (h2 _ q) (Nat.lt_irrefl _)
      · exact q
      · exact absurd q h1
    exact ⟨by omega,by simp only [h3]; exact cmpS_eq0.2 e⟩
  · rintro ⟨hi,e⟩
    exact ⟨_,List.getElem_mem hi,decide_eq_true (cmpS_zero e)⟩
theorem unt_has {l:List Ver} (h:SorV l) (s:Stp):untV l s=if hasV l s=true then idxV l s + 1 else idxV l s:=by
  have hle:=unt_le l s
  have hli:=idx_le l s
  have key:∀i (hi:i < l.length),i < untV l s↔i < idxV l s∨(i=idxV l s∧hasV l s=true):=fun i hi=>by
    rw [unt_lt h hi,idx_lt h hi]
    constructor
    · intro q
      rcases Int.lt_or_eq_of_le q with q | q
      · exact .inl q
      · have e:=cmpS_zero q
        have h1:hasV l s=true:=by unfold hasV; rw [List.any_eq_true]; exact ⟨_,List.getElem_mem hi,decide_eq_true e⟩
        obtain ⟨h2,h3⟩:=(has_iff h s).1 h1
        have h4:=cmpS_zero h3
        refine .inr ⟨?_,h1⟩
        rcases Nat.lt_trichotomy i (idxV l s) with p | p | p
        · have:=List.pairwise_iff_getElem.1 h i _ hi h2 p
          rw [e,h4,cmpS_refl] at this; omega
        · exact p
        · have:=List.pairwise_iff_getElem.1 h _ i h2 hi p
          rw [e,h4,cmpS_refl] at this; omega
    · rintro (q | ⟨rfl,q⟩)
      · exact Int.le_of_lt q
      · obtain ⟨_,h3⟩:=(has_iff h s).1 q
        rw [h3]; exact Int.le_refl _
  cases hh:hasV l s with
  | true =>
    obtain ⟨h2,_⟩:=(has_iff h s).1 hh
    have h1:=(key _ h2).2 (.inr ⟨rfl,hh⟩)
    rw [if_pos rfl]
    rcases Nat.lt_or_ge (idxV l s + 1) (untV l s) with q | q
    · rcases (key _ (by omega)).1 q with h5 | h5 <;> omega
    · omega
  | false =>
    rw [if_neg (by simp)]
    rcases Nat.lt_trichotomy (untV l s) (idxV l s) with q | q | q
    · have:=(key (untV l s) (by omega)).2 (.inl q); omega
    · exact q
    · rcases (key (idxV l s) (by omega)).1 q with h5 | h5
      · omega
      · rw [hh] at h5; exact absurd h5.2 (by simp)
theorem ins_length (l:List Ver) (v:Ver):(insV l v).length=l.length + 1:=by
  have:=idx_le l v.st
  unfold insV; simp; omega
theorem ins_sor {l:List Ver} {v:Ver} (h:SorV l) (hn:hasV l v.st=false):SorV (insV l v):=by
  have hsplit:SorV (l.take (idxV l v.st) ++ l.drop (idxV l v.st)):=by rw [List.take_append_drop]; exact h
  obtain ⟨h1,h2,h3⟩:=List.pairwise_append.1 hsplit
  unfold insV SorV
  refine List.pairwise_append.2 ⟨h1,List.pairwise_cons.2 ⟨fun b hb => ?_,h2⟩,fun a ha b hb => ?_⟩
  · obtain ⟨j,hj,rfl⟩:=List.mem_iff_getElem.1 hb
    rw [List.length_drop] at hj
    rw [List.getElem_drop]
    have q:¬(idxV l v.st + j < idxV l v.st):=by omega
    rw [idx_lt h (by omega)] at q
    have q2:l[idxV l v.st + j].st≠v.st:=fun e=>by
      have:hasV l v.st=true:=by unfold hasV; rw [List.any_eq_true]; exact ⟨_,List.getElem_mem (by omega),decide_eq_true e⟩
      rw [hn] at this; cases this
    have q3:cmpS l[idxV l v.st + j].st v.st≠0:=fun e=>q2 (cmpS_zero e)
    have:=cmpS_flip v.st l[idxV l v.st + j].st
    omega
  · obtain ⟨i,hi,rfl⟩:=List.mem_iff_getElem.1 ha
    rw [List.length_take] at hi
    rw [List.getElem_take]
    rcases List.mem_cons.1 hb with rfl | hb
    · exact (idx_lt h (by omega)).1 (by omega)
    · exact h3 _ (by rw [List.mem_iff_getElem]; exact ⟨i,by rw [List.length_take]; omega,by simp⟩) b hb
theorem drop_sor {l:List Ver} (h:SorV l) (n:Nat):SorV (l.drop n):=h.sublist (List.drop_sublist _ _)
end Go.AM
namespace Go.AM
open Go
set_option maxRecDepth 20000
def entA (e:Ent):AV := .agg (enc e)
def holV (p:Key×Int):AV:=iA p.2
structure TabH (H:List HObj) (h h1 h2:Nat) (tb:List Ent) (hl:List (Key×Int)):Prop where
  n1:h≠h1
  n2:h≠h2
  n12:h1≠h2
  at0:H[h]? = some (.cells [.map h1,.map h2])
  at1:∃es c,H[h1]? = some (.map es c)∧MapG iA Ent.id entA es c tb
  at2:∃es c,H[h2]? = some (.map es c)∧MapG kA Prod.fst holV es c hl
def Ext (H H':List HObj) (h1 h2:Nat):Prop:=H.length≤H'.length∧∀i,i < H.length→i≠h1→i≠h2→H'[i]? = H[i]?
theorem Ext.refl {H:List HObj} {h1 h2:Nat}:Ext H H h1 h2:=⟨Nat.le_refl _,fun _ _ _ _=>rfl⟩
theorem Ext.trans {H H' H'':List HObj} {h1 h2:Nat} (a:Ext H H' h1 h2) (b:Ext H' H'' h1 h2):Ext H H'' h1 h2 :=
  ⟨Nat.le_trans a.1 b.1,fun i hi e1 e2=>(b.2 i (Nat.lt_of_lt_of_le hi a.1) e1 e2).trans (a.2 i hi e1 e2)⟩
theorem Ext.app {H G:List HObj} {h1 h2:Nat}:Ext H (H ++ G) h1 h2:=⟨by simp,fun i hi _ _=>List.getElem?_append_left hi⟩
theorem hlt {H:List HObj} {h:Nat} {o:HObj} (e:H[h]? = some o):h < H.length:=(List.getElem?_eq_some_iff.1 e).1
theorem happ {H G:List HObj} {h:Nat} {o:HObj} (e:H[h]? = some o):(H ++ G)[h]? = some o:=by rw [List.getElem?_append_left (hlt e)]; exact e
theorem hset {H:List HObj} {h j:Nat} {o o':HObj} (hne:j≠h) (e:H[h]? = some o):(H.set j o')[h]? = some o:=by rw [List.getElem?_set_ne hne]; exact e
theorem hself {H:List HObj} {h:Nat} {o o':HObj} (e:H[h]? = some o):(H.set h o')[h]? = some o':=by rw [List.getElem?_set_self (hlt e)]
theorem TabH.app {H G:List HObj} {h h1 h2:Nat} {tb:List Ent} {hl:List (Key×Int)} (t:TabH H h h1 h2 tb hl):TabH (H ++ G) h h1 h2 tb hl:=by
  obtain ⟨n1,n2,n12,a0,⟨e1,c1,a1,g1⟩,⟨e2,c2,a2,g2⟩⟩:=t
  exact ⟨n1,n2,n12,happ a0,⟨e1,c1,happ a1,g1⟩,⟨e2,c2,happ a2,g2⟩⟩
end Go.AM
namespace Go.AM
open Go
def KeepF (H H':List HObj) (l:List Nat):Prop:=H.length≤H'.length∧∀i,i < H.length→i∉l→H'[i]? = H[i]?
theorem KeepF.refl {H:List HObj} {l:List Nat}:KeepF H H l:=⟨Nat.le_refl _,fun _ _ _=>rfl⟩
theorem KeepF.trans {H H' H'':List HObj} {l:List Nat} (a:KeepF H H' l) (b:KeepF H' H'' l):KeepF H H'' l :=
  ⟨Nat.le_trans a.1 b.1,fun i hi e=>(b.2 i (Nat.lt_of_lt_of_le hi a.1) e).trans (a.2 i hi e)⟩
theorem KeepF.app {H G:List HObj} {l:List Nat}:KeepF H (H ++ G) l:=⟨by simp,fun i hi _=>List.getElem?_append_left hi⟩
theorem KeepF.set {H:List HObj} {j:Nat} {o:HObj} {l:List Nat} (hj:j∈l):KeepF H (H.set j o) l:=⟨by simp,fun i _ e=>List.getElem?_set_ne fun q:j=i=>e (q▸hj)⟩
theorem KeepF.get {H H':List HObj} {l:List Nat} {q:Nat} {o:HObj} (x:KeepF H H' l) (e:H[q]? = some o) (h:q∉l):H'[q]? = some o:=by
  rw [x.2 q (hlt e) h]; exact e
theorem KeepF.mono {H H':List HObj} {l m:List Nat} (x:KeepF H H' l) (h:∀i∈l,i∈m∨H.length≤i):KeepF H H' m:=⟨x.1,fun i hi e=>x.2 i hi fun q=>by rcases h i q with h | h; exact e h; omega⟩
structure Left (H H':List HObj) (O O':List Nat):Prop where
  keep:KeepF H H' O
  old:∀i∈O',i∈O∨H.length≤i
theorem Left.refl {H:List HObj} {O:List Nat}:Left H H O O:=⟨.refl,fun _ h => .inl h⟩
theorem Left.app {H G:List HObj} {O:List Nat}:Left H (H ++ G) O O:=⟨.app,fun _ h => .inl h⟩
theorem Left.set {H:List HObj} {O:List Nat} {j:Nat} {o:HObj} (h:j∈O):Left H (H.set j o) O O:=⟨.set h,fun _ h => .inl h⟩
theorem Left.trans {H H' H'':List HObj} {O O' O'':List Nat} (a:Left H H' O O') (b:Left H' H'' O' O''):Left H H'' O O'' :=
  ⟨⟨Nat.le_trans a.keep.1 b.keep.1,fun i hi ho=>(b.keep.2 i (Nat.lt_of_lt_of_le hi a.keep.1) fun q=>(a.old i q).elim ho fun q=>by omega).trans (a.keep.2 i hi ho)⟩,
   fun i hi=>(b.old i hi).elim (a.old i) fun q => .inr (Nat.le_trans a.keep.1 q)⟩
end Go.AM
namespace Go.AM
open Go
set_option maxRecDepth 20000
end Go.AM
namespace Go.AM
open Go
set_option maxRecDepth 20000
end Go.AM
namespace Go.AM
open Go
set_option maxRecDepth 20000
end Go.AM
namespace Go.AM
open Go
set_option maxRecDepth 20000
theorem sgood_split:∀(l:List Wr) (seen:List Key),sgood seen l=true→(l.map (·.key)).Nodup∧∀w∈l,w.key∉seen
  | [],seen,_=>⟨.nil,fun w h=>by cases h⟩
  | w :: l,seen,h=>by
    unfold sgood at h
    split at h
    · cases h
    split at h
    · cases h
    rename_i hns
    split at h
    · cases h
    split at h
    · cases h
    obtain ⟨q1,q2⟩:=sgood_split l _ h
    refine ⟨?_,fun x hx => ?_⟩
    · rw [List.map_cons,List.nodup_cons]
      refine ⟨fun hm => ?_,q1⟩
      rw [List.mem_map] at hm
      obtain ⟨y,hy,he⟩:=hm
      exact q2 y hy (by rw [he]; simp)
    · rcases List.mem_cons.1 hx with rfl | hx
      · exact hns
      · exact fun hm=>q2 x hx (List.mem_append_left _ hm)
theorem hsetid {H:List HObj} {h:Nat} {o:HObj} (e:H[h]? = some o):H.set h o=H:=by
  refine List.ext_getElem? fun i => ?_
  by_cases hi:h=i
  · subst hi; rw [List.getElem?_set_self (hlt e),e]
  · rw [List.getElem?_set_ne hi]
end Go.AM
namespace Go.AM
open Go
set_option maxRecDepth 20000
end Go.AM
namespace Go.AM
open Go
set_option maxRecDepth 20000
section
variable {C:CallW} {P:Program} {rd:Bool}
theorem opS_rng {d x l is fr S H K h es c} (hx:seL fr x = .map h) (hm:H[h]? = some (.map es c)):opS C P rd d (.rng x) l is fr ⟨S,H⟩ K=runS C P rd l is (putA d (.ptr (.heap H.length) 0) fr) ⟨S,H ++ [.iter ⟨some h,c,[],c⟩]⟩ K:=by
  have hmo:mapOf ⟨S,H⟩ (.map h)=some (es,c):=by simp [mapOf,hm]
  unfold opS
  rw [show mayb (.rng x) fr=false from rfl]
  simp only [mb]
  unfold doL
  simp only [settledL,settleL,hx,hmo]
theorem opS_nxt {d x l is fr S H K n h es c} {it:IterA} (hx:seL fr x = .ptr (.heap n) 0) (hi:H[n]? = some (.iter it)) (hp:it.map=some h) (hm:H[h]? = some (.map es c)):opS C P rd d (.nxt x) l is fr ⟨S,H⟩ K=((it.seen=[]∨es=[]∨∃e∈es,e.born < it.stepped)∧((∀e∈es,e.born∈it.seen∨it.since≤e.born)→runS C P rd l is (putA d (.tup [.bool false]) fr) ⟨S,H⟩ K)∧∀e∈es,e.born∉it.seen→runS C P rd l is (putA d (.tup [.bool true,e.key,e.val]) fr) ⟨S,H.set n (.iter { it with seen:=it.seen ++ [e.born],stepped:=c })⟩ K):=by
  have hmo:mapOf ⟨S,H⟩ (.map h)=some (es,c):=by simp [mapOf,hm]
  have hio:iterOf ⟨S,H⟩ (.ptr (.heap n) 0)=some (n,it):=by simp [iterOf,hi]
  unfold opS
  rw [show mayb (.nxt x) fr=false from rfl]
  simp only [mb]
  unfold doL
  simp only [settledL,settleL,hx,hio,hp,hmo]
  rfl
theorem opS_ent {d x l is fr S H K n h es c b} {e:Entry} {it:IterA} (hx:seL fr x = .ptr (.heap n) 0) (hi:H[n]? = some (.iter it)) (hp:it.map=some h) (hm:H[h]? = some (.map es c)) (hb:it.seen.getLast? = some b) (hc:c=it.stepped) (hf:es.find? (fun e=>e.born == b)=some e):opS C P rd d (.ent x) l is fr ⟨S,H⟩ K=runS C P rd l is (putA d (.tup [e.key,e.val]) fr) ⟨S,H⟩ K:=by
  have hmo:mapOf ⟨S,H⟩ (.map h)=some (es,c):=by simp [mapOf,hm]
  have hio:iterOf ⟨S,H⟩ (.ptr (.heap n) 0)=some (n,it):=by simp [iterOf,hi]
  unfold opS
  rw [show mayb (.ent x) fr=false from rfl]
  simp only [mb]
  unfold doL
  simp only [settledL,settleL,hx,hio,hp,hb,hmo,hf]
  simp [hc]
end
theorem born_find {es:List Entry} (hnd:(es.map (·.born)).Nodup) {e:Entry} (he:e∈es):es.find? (fun x=>x.born == e.born)=some e:=by
  induction es with
  | nil=>cases he
  | cons y es ih =>
    rw [List.map_cons,List.nodup_cons] at hnd
    rw [List.find?_cons]
    rcases List.mem_cons.1 he with rfl | he
    · simp
    · have:(y.born == e.born)=false:=by
        cases hq:(y.born == e.born) with
        | false=>rfl
        | true =>
          have hq:y.born=e.born:=by simpa using hq
          exact absurd (List.mem_map.2 ⟨e,he,hq.symm⟩) hnd.1
      rw [this]
      exact ih hnd.2 he
end Go.AM
namespace Go.AM
open Go
set_option maxRecDepth 20000
end Go.AM
namespace Go.AM
open Go
set_option maxRecDepth 20000
structure MapI (H:List HObj) (bx hm c:Nat) (es:List Entry) (x:Entry→Int):Prop where
  box:H[bx]? = some (.cells [.map hm])
  map:H[hm]? = some (.map es c)
  nd:(es.map (·.born)).Nodup
  lt:∀e∈es,e.born < c
  key:∀e∈es,e.key=iA (x e)
  len:es.length≤1000000
end Go.AM
namespace Go.AM
open Go
set_option maxRecDepth 20000
structure MapWr (H:List HObj) (bx hm c:Nat) (es:List Entry) (x:Entry→Wr):Prop where
  box:H[bx]? = some (.cells [.map hm])
  map:H[hm]? = some (.map es c)
  nd:(es.map (·.born)).Nodup
  lt:∀e∈es,e.born < c
  val:∀e∈es,e.val=wA (x e)
  len:es.length≤1000000
theorem u8_in {a b:UInt8} (h:u8 a=u8 b):a=b:=by
  unfold u8 at h
  injection h with h
  injection h with _ h
  exact UInt8.toNat_inj.1 (by omega)
theorem bs_in {a b:List UInt8} (h:bs a=bs b):a=b:=(List.map_inj_right fun _ _=>u8_in).1 h
theorem cb_zero:∀(x y:List UInt8),Lib.compareBytes x y=0→x=y
  | [],[],_=>rfl
  | [],_ :: _,h=>by simp [Lib.compareBytes] at h
  | _ :: _,[],h=>by simp [Lib.compareBytes] at h
  | a :: x,b :: y,h=>by
    simp only [Lib.compareBytes] at h
    split at h
    · cases h
    · rename_i h1
      split at h
      · cases h
      · rename_i h2
        have:a=b:=by
          have q1:¬(a.toNat < b.toNat):=fun q=>h1 (UInt8.lt_iff_toNat_lt.2 q)
          have q2:¬(b.toNat < a.toNat):=fun q=>h2 (UInt8.lt_iff_toNat_lt.2 q)
          exact UInt8.toNat_inj.1 (by omega)
        rw [this,cb_zero x y h]
theorem cmpK_eq (a b:Key):cmpK a b=0↔a=b:=⟨fun h=>Key.ext' (cb_zero _ _ h),fun h=>by subst h; have:=cmp_flip a a; omega⟩
structure MapKW (H:List HObj) (hm:Nat) (ws:List Wr):Prop where
  map:∃es c,H[hm]? = some (.map es c)∧MapG kA Wr.key wA es c ws
  nd:(ws.map Wr.key).Nodup
  len:ws.length≤1000
end Go.AM
namespace Go.AM
open Go
set_option maxRecDepth 20000
abbrev Sto:=List (Key×List Ver)
def ofQ (Q:Sto) (k:Key):List Ver:=match Q.find? fun p=>decide (p.1=k) with
  | some p=>p.2
  | none=>[]
def setQ (Q:Sto) (k:Key) (vs:List Ver):Sto:=match Q.find? fun p=>decide (p.1=k) with
  | some _=>Q.map fun p=>if p.1=k then (k,vs) else p
  | none=>Q ++ [(k,vs)]
structure CH where
  k:Key
  b:Nat
  vs:List Ver
def CH.p (c:CH):Key×List Ver:=(c.k,c.vs)
def chP (c:CH):AV := .ptr (.heap c.b) 0
def ChOK (vs:List Ver):Prop:=vs≠[]∧SorV vs∧vs.length≤50∧∀v∈vs,okV v=true
structure StG (H:List HObj) (O:List Nat) (h hm:Nat) (l:List CH):Prop where
  at0:H[h]? = some (.cells [.map hm])
  map:∃es c,H[hm]? = some (.map es c)∧MapG kA CH.k chP es c l
  ch:∀c∈l,H[c.b]? = some (.cells [chK c.vs])
  nk:(l.map CH.k).Nodup
  nb:(l.map CH.b).Nodup
  ok:∀c∈l,ChOK c.vs
  own:h∈O∧hm∈O∧∀c∈l,c.b∈O
  low:∀i∈O,i < H.length
def StA (H:List HObj) (O:List Nat) (h:Nat) (Q:Sto):Prop:=∃hm l,StG H O h hm l∧l.map CH.p=Q
section
variable {H H':List HObj} {O O' k:List Nat} {h hm:Nat} {l:List CH} {Q:Sto}
theorem StG.keep (t:StG H O h hm l) (e:KeepF H H' k) (e1:∀i∈O,i∉k):StG H' O h hm l:=by
  obtain ⟨es,c,a,g⟩:=t.map
  exact ⟨e.get t.at0 (e1 _ t.own.1),⟨es,c,e.get a (e1 _ t.own.2.1),g⟩,fun c hc=>e.get (t.ch c hc) (e1 _ (t.own.2.2 c hc)),t.nk,t.nb,t.ok,t.own,fun i hi=>Nat.lt_of_lt_of_le (t.low i hi) e.1⟩
theorem StG.app {G:List HObj} (t:StG H O h hm l):StG (H ++ G) O h hm l:=t.keep (k:=[]) .app fun _ _ q=>by cases q
theorem StA.keep (t:StA H O h Q) (e:KeepF H H' k) (e1:∀i∈O,i∉k):StA H' O h Q:=by
  obtain ⟨hm,l,t,q⟩:=t
  exact ⟨hm,l,t.keep e e1,q⟩
theorem StA.app {G:List HObj} (t:StA H O h Q):StA (H ++ G) O h Q:=t.keep (k:=[]) .app fun _ _ q=>by cases q
theorem StA.low (t:StA H O h Q):∀i∈O,i < H.length:=by
  obtain ⟨hm,l,t,q⟩:=t
  exact t.low
theorem StA.hin (t:StA H O h Q):h∈O:=by
  obtain ⟨hm,l,t,q⟩:=t
  exact t.own.1
theorem find_CH (l:List CH) (x:Key):(l.map CH.p).find? (fun p=>decide (p.1=x))=(getB CH.k l x).map CH.p:=by
  unfold getB
  induction l with
  | nil=>rfl
  | cons c l ih =>
    rw [List.map_cons,List.find?_cons,List.find?_cons]
    show (match decide (c.k=x) with | true=>some c.p | false=>_)=_
    cases decide (c.k=x) with
    | true=>rfl
    | false=>exact ih
theorem ofQ_none {x:Key} (e:getB CH.k l x=none):ofQ (l.map CH.p) x=[]:=by unfold ofQ; rw [find_CH,e]; rfl
theorem ofQ_some {x:Key} {c:CH} (e:getB CH.k l x=some c):ofQ (l.map CH.p) x=c.vs:=by unfold ofQ; rw [find_CH,e]; rfl
theorem setQ_put (l:List CH) (c:CH):setQ (l.map CH.p) c.k c.vs=(putM CH.k l c).map CH.p:=by
  unfold setQ putM
  rw [find_CH]
  cases getB CH.k l c.k with
  | none=>simp [CH.p]
  | some y =>
    simp only [Option.map_some,List.map_map]
    refine List.map_congr_left fun z _ => ?_
    show (if z.k=c.k then (c.k,c.vs) else z.p)=(if z.k=c.k then c else z).p
    by_cases h:z.k=c.k <;> simp [h,CH.p]
theorem getB_some_iff {β κ:Type} [DecidableEq κ] {kp:β→κ} {l:List β} {x:κ} {y:β} (h:getB kp l x=some y):y∈l∧kp y=x:=⟨List.mem_of_find?_eq_some h,by have:=List.find?_some h; exact of_decide_eq_true this⟩
theorem lookS (t:StG H O h hm l) {S:List (List AV)} (x:Key) (ok:Bool):lookupL (.leaf lk) (.s .nilP) ok (.map hm) (.agg (bs x.b)) ⟨S,H⟩=some (lookR chP (.s .nilP) ok (getB CH.k l x)):=by
  obtain ⟨es,c,a,g⟩:=t.map
  exact map_look keyK_key (S:=S) (k:=x) a g.rel
theorem lenS (t:StG H O h hm l) {S:List (List AV)}:lenL .map (.map hm) ⟨S,H⟩=some l.length:=by
  obtain ⟨es,c,a,g⟩:=t.map
  have hlen:es.length=l.length:=by have:=congrArg List.length g.rel; simpa [RelM] using this
  simp [lenL,a,hlen]
theorem StG.setc (t:StG H O h hm l) {c:CH} (hc:c∈l) {vs:List Ver} (hv:ChOK vs):StG (H.set c.b (.cells [chK vs])) O h hm (putM CH.k l { c with vs:=vs }):=by
  obtain ⟨es,cc,a,g⟩:=t.map
  have nkeys:(putM CH.k l { c with vs:=vs }).map CH.k=l.map CH.k:=by
    unfold putM
    have:∃y,getB CH.k l c.k=some y:=by
      cases q:getB CH.k l c.k with
      | none=>exact absurd rfl (getB_none q c hc)
      | some y=>exact ⟨y,rfl⟩
    obtain ⟨y,hy⟩:=this
    simp only [hy,List.map_map]
    refine List.map_congr_left fun z _ => ?_
    show CH.k (if z.k=c.k then _ else z)=z.k
    by_cases h:z.k=c.k <;> simp [h]
  have hput:putM CH.k l { c with vs:=vs }=l.map fun z=>if z.k=c.k then { c with vs:=vs } else z:=by
    unfold putM
    have:∃y,getB CH.k l c.k=some y:=by
      cases q:getB CH.k l c.k with
      | none=>exact absurd rfl (getB_none q c hc)
      | some y=>exact ⟨y,rfl⟩
    obtain ⟨y,hy⟩:=this
    simp only [hy]
  have hself':∀z∈l,z.k=c.k→z=c:=fun z hz e=>by
    obtain ⟨i,hi,rfl⟩:=List.mem_iff_getElem.1 hz
    obtain ⟨j,hj,rfl⟩:=List.mem_iff_getElem.1 hc
    rcases Nat.lt_trichotomy i j with q | q | q
    · have:=List.pairwise_iff_getElem.1 t.nk i j (by simpa using hi) (by simpa using hj) q
      simp at this; exact absurd e this
    · subst q; rfl
    · have:=List.pairwise_iff_getElem.1 t.nk j i (by simpa using hj) (by simpa using hi) q
      simp at this; exact absurd e.symm this
  have nbs:(putM CH.k l { c with vs:=vs }).map CH.b=l.map CH.b:=by
    rw [hput,List.map_map]
    refine List.map_congr_left fun z hz => ?_
    show CH.b (if z.k=c.k then _ else z)=z.b
    by_cases h:z.k=c.k
    · rw [if_pos h,hself' z hz h]
    · rw [if_neg h]
  have hne:∀{j:Nat} {o:HObj},H[j]? = some o→o≠.cells [chK c.vs]→c.b≠j:=fun e n q=>by
    subst q
    rw [t.ch c hc] at e
    exact n (Option.some.inj e).symm
  have hch:∀x:List Ver,HObj.cells [.map hm]≠.cells [chK x]:=fun x q=>by
    injection q with q
    injection q with q _
    unfold chK at q
    cases x <;> cases q
  refine ⟨hset (hne t.at0 (hch _)) t.at0,⟨es,cc,hset (hne a (by simp)) a,?_,g.nd,g.lt⟩,fun z hz => ?_,by rw [nkeys]; exact t.nk,by rw [nbs]; exact t.nb,fun z hz => ?_,⟨t.own.1,t.own.2.1,fun z hz => ?_⟩,fun i hi=>by rw [List.length_set]; exact t.low i hi⟩
  · have hr:=g.rel
    unfold RelM at hr ⊢
    rw [hr,hput,List.map_map]
    refine List.map_congr_left fun z hz => ?_
    show (kA z.k,chP z)=(kA (CH.k (if z.k=c.k then _ else z)),chP (if z.k=c.k then _ else z))
    by_cases h:z.k=c.k
    · rw [if_pos h,hself' z hz h]; rfl
    · rw [if_neg h]
  · rw [hput] at hz
    obtain ⟨y,hy,rfl⟩:=List.mem_map.1 hz
    by_cases h:y.k=c.k
    · rw [if_pos h]
      exact hself (t.ch c hc)
    · rw [if_neg h]
      refine hset (fun q => ?_) (t.ch y hy)
      have:y=c:=by
        obtain ⟨i,hi,rfl⟩:=List.mem_iff_getElem.1 hy
        obtain ⟨j,hj,rfl⟩:=List.mem_iff_getElem.1 hc
        rcases Nat.lt_trichotomy i j with r | r | r
        · have:=List.pairwise_iff_getElem.1 t.nb i j (by simpa using hi) (by simpa using hj) r
          simp at this; exact absurd q.symm this
        · subst r; rfl
        · have:=List.pairwise_iff_getElem.1 t.nb j i (by simpa using hj) (by simpa using hi) r
          simp at this; exact absurd q this
      exact h (by rw [this])
  · rw [hput] at hz
    obtain ⟨y,hy,rfl⟩:=List.mem_map.1 hz
    by_cases h:y.k=c.k
    · rw [if_pos h]; exact hv
    · rw [if_neg h]; exact t.ok y hy
  · rw [hput] at hz
    obtain ⟨y,hy,rfl⟩:=List.mem_map.1 hz
    by_cases h:y.k=c.k
    · rw [if_pos h]; exact t.own.2.2 c hc
    · rw [if_neg h]; exact t.own.2.2 y hy
theorem StG.addc (t:StG H O h hm l) {x:Key} (hn:getB CH.k l x=none) {b:Nat} {vs:List Ver} (hb:H[b]? = some (.cells [chK vs])) (hbo:b∉O) (hv:ChOK vs) {S:List (List AV)}:∃es c,(∀S:List (List AV),updateL (.leaf lk) (.map hm) (.agg (bs x.b)) (.ptr (.heap b) 0) ⟨S,H⟩=some ⟨S,H.set hm (.map es c)⟩)∧StG (H.set hm (.map es c)) (O ++ [b]) h hm (putM CH.k l ⟨x,b,vs⟩):=by
  obtain ⟨es0,c0,a,g⟩:=t.map
  obtain ⟨es,c,q1,q2⟩:=MapG.upd keyK_key (x:=(⟨x,b,vs⟩:CH)) a g t.nk rfl
  have hput:putM CH.k l ⟨x,b,vs⟩=l ++ [⟨x,b,vs⟩]:=putM_new fun y hy e=>getB_none hn y hy e
  have hms:∀{j:Nat} {cs:List AV},H[j]? = some (.cells cs)→hm≠j:=fun e q=>by
    subst q
    rw [a] at e; cases e
  refine ⟨es,c,q1,hset (hms t.at0) t.at0,⟨es,c,hself a,q2⟩,fun z hz => ?_,?_,?_,fun z hz => ?_,⟨by simp [t.own.1],by simp [t.own.2.1],fun z hz => ?_⟩,fun i hi => ?_⟩
  · rw [hput] at hz
    rcases List.mem_append.1 hz with hz | hz
    · exact hset (hms (t.ch z hz)) (t.ch z hz)
    · have:=List.mem_singleton.1 hz
      subst this
      exact hset (hms hb) hb
  · rw [hput,List.map_append,List.nodup_append]
    exact ⟨t.nk,by simp,fun y hy z hz=>by
      obtain ⟨w,hw,rfl⟩:=List.mem_map.1 hy
      have:z=x:=by simpa using hz
      subst this
      exact getB_none hn w hw⟩
  · rw [hput,List.map_append,List.nodup_append]
    exact ⟨t.nb,by simp,fun y hy z hz e=>by
      obtain ⟨w,hw,rfl⟩:=List.mem_map.1 hy
      have:z=b:=by simpa using hz
      subst this
      exact hbo (e▸t.own.2.2 w hw)⟩
  · rw [hput] at hz
    rcases List.mem_append.1 hz with hz | hz
    · exact t.ok z hz
    · have:=List.mem_singleton.1 hz
      subst this
      exact hv
  · rw [hput] at hz
    rcases List.mem_append.1 hz with hz | hz
    · exact List.mem_append_left _ (t.own.2.2 z hz)
    · have:=List.mem_singleton.1 hz
      subst this
      simp
  · rw [List.length_set]
    rcases List.mem_append.1 hi with hi | hi
    · exact t.low i hi
    · have:=List.mem_singleton.1 hi
      subst this
      exact hlt hb
end
end Go.AM
