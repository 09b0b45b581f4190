import Derived.Test.YtmboeclchocpcaaM9
import Derived.Sort.AssemblyPlain
set_option linter.unusedSimpArgs false
set_option linter.unusedVariables false
namespace Go.AM
open Go
abbrev zs (d:Nat) (o:LOp):LStep:=⟨some d,none,o⟩
abbrev zv (d n : Nat) : LStep := zs d (.mv false (.t n))
abbrev zt (d g:Nat) (o:LOp):LStep:=⟨some d,some (g,true),o⟩
abbrev zf (d g:Nat) (o:LOp):LStep:=⟨some d,some (g,false),o⟩
abbrev zn (o:LOp):LStep:=⟨none,none,o⟩
abbrev zi (n:Int):Opd := .c (.int .i64 n)
abbrev zT:Opd := .c (.bool true)
abbrev zF:Opd := .c (.bool false)
theorem zc {a b:Prop} (h:a) (h2:b):a∧b:=⟨h,h2⟩
def zm:Bool→List Nat→List Bool
  | _,[]=>[]
  | b,n :: l=>List.replicate n b ++ zm (!b) l
inductive Item where
  | c (x:LCode)
  | blk (id:Nat)
  | lp (mask:List Bool) (b:LCode) (n0:Nat)
def contK (C:CallW) (P:Program) (rd:Bool):List Item→KC→KC
  | [],K=>K
  | .c x :: is,K=>roundK (fun fr σ=>execL C P rd x fr σ (contK C P rd is K)) (contK C P rd is K)
  | .blk id :: is,K=>blockK id (contK C P rd is K)
  | .lp mask b n0 :: is,K=>roundK (fun fr σ=>loopW (execL C P rd b) mask n0 fr σ (contK C P rd is K)) (contK C P rd is K)
section
variable {C:CallW} {P:Program} {rd:Bool}
def runC (C:CallW) (P:Program) (rd:Bool) (x:LCode) (is:List Item) (fr:Fr) (σ:St) (K:KC):Prop:=execL C P rd x fr σ (contK C P rd is K)
def nxt (C:CallW) (P:Program) (rd:Bool) (is:List Item) (fr:Fr) (σ:St) (K:KC):Prop:=contK C P rd is K .normal fr σ
def ext (C:CallW) (P:Program) (rd:Bool) (id:Nat) (is:List Item) (fr:Fr) (σ:St) (K:KC):Prop:=contK C P rd is K (.exit id) fr σ
def rtn (C:CallW) (P:Program) (rd:Bool) (is:List Item) (fr:Fr) (σ:St) (K:KC):Prop:=contK C P rd is K .ret fr σ
def runS (C:CallW) (P:Program) (rd:Bool) (l:List LStep) (is:List Item) (fr:Fr) (σ:St) (K:KC):Prop:=seqL C l fr σ (contK C P rd is K .normal)
def runT (C:CallW) (P:Program) (rd:Bool) (t:LT) (chk:List LChk) (is:List Item) (fr:Fr) (σ:St) (K:KC):Prop:=planL C t fr σ chk (contK C P rd is K .normal)
def runLp (C:CallW) (P:Program) (rd:Bool) (mask:List Bool) (b:LCode) (n0:Nat) (is:List Item) (fr:Fr) (σ:St) (K:KC):Prop:=loopW (execL C P rd b) mask n0 fr σ (contK C P rd is K)
def cnd (C:CallW) (P:Program) (rd:Bool) (v:AV) (a b:LCode) (is:List Item) (fr:Fr) (σ:St) (K:KC):Prop :=
  match v with
  | .s (.bool x)=>(x=true→runC C P rd a is fr σ K)∧(x=false→runC C P rd b is fr σ K)
  | _=>False
theorem runC_skip {is fr σ K}:runC C P rd .skip is fr σ K=nxt C P rd is fr σ K:=(rfl)
theorem runC_sq {l is fr σ K}:runC C P rd (.sq l) is fr σ K=runS C P rd l is fr σ K:=(rfl)
theorem runC_tree {t is fr σ K}:runC C P rd (.tree t) is fr σ K=runT C P rd t [] is fr σ K:=(rfl)
theorem runC_seq {a b is fr σ K}:runC C P rd (.seq a b) is fr σ K=runC C P rd a (.c b :: is) fr σ K:=(rfl)
theorem runC_cond {c a b is fr σ K}:runC C P rd (.cond c a b) is fr σ K=cnd C P rd (opL fr c) a b is fr σ K:=by
  show (match opL fr c with | .s (.bool x)=>_ | _=>False)=_
  rfl
theorem runC_block {id b is fr σ K}:runC C P rd (.block id b) is fr σ K=runC C P rd b (.blk id :: is) fr σ K:=(rfl)
theorem runC_loop {m b is fr S H K}:runC C P rd (.loop m b) is fr ⟨S,H⟩ K=runLp C P rd m b S.length is fr ⟨S,H⟩ K:=(rfl)
theorem runC_exit {id is fr σ K}:runC C P rd (.exit id) is fr σ K=ext C P rd id is fr σ K:=(rfl)
theorem runC_ret {is fr σ K}:runC C P rd .ret is fr σ K=rtn C P rd is fr σ K:=(rfl)
theorem cnd_true {a b is fr σ K}:cnd C P rd (.s (.bool true)) a b is fr σ K=runC C P rd a is fr σ K:=by simp [cnd]
theorem cnd_false {a b is fr σ K}:cnd C P rd (.s (.bool false)) a b is fr σ K=runC C P rd b is fr σ K:=by simp [cnd]
theorem nxt_nil {fr σ K}:nxt C P rd [] fr σ K=K .normal fr σ:=(rfl)
theorem nxt_c {x is fr σ K}:nxt C P rd (.c x :: is) fr σ K=runC C P rd x is fr σ K:=(rfl)
theorem nxt_blk {id is fr σ K}:nxt C P rd (.blk id :: is) fr σ K=nxt C P rd is fr σ K:=(rfl)
theorem nxt_lp {m b n0 is fr σ K}:nxt C P rd (.lp m b n0 :: is) fr σ K=runLp C P rd m b n0 is fr σ K:=(rfl)
theorem ext_nil {id fr σ K}:ext C P rd id [] fr σ K=K (.exit id) fr σ:=(rfl)
theorem ext_c {id x is fr σ K}:ext C P rd id (.c x :: is) fr σ K=ext C P rd id is fr σ K:=(rfl)
theorem ext_blk {id id' is fr σ K}:ext C P rd id (.blk id' :: is) fr σ K=if id=id' then nxt C P rd is fr σ K else ext C P rd id is fr σ K:=(rfl)
theorem ext_lp {id m b n0 is fr σ K}:ext C P rd id (.lp m b n0 :: is) fr σ K=ext C P rd id is fr σ K:=(rfl)
theorem rtn_nil {fr σ K}:rtn C P rd [] fr σ K=K .ret fr σ:=(rfl)
theorem rtn_c {x is fr σ K}:rtn C P rd (.c x :: is) fr σ K=rtn C P rd is fr σ K:=(rfl)
theorem rtn_blk {id is fr σ K}:rtn C P rd (.blk id :: is) fr σ K=rtn C P rd is fr σ K:=(rfl)
theorem rtn_lp {m b n0 is fr σ K}:rtn C P rd (.lp m b n0 :: is) fr σ K=rtn C P rd is fr σ K:=(rfl)
def thn (C:CallW) (P:Program) (rd:Bool) (d:Option Nat) (l:List LStep) (is:List Item) (K:KC):Option (AV×Fr×St)→Prop
  | some (v,fr,σ)=>runS C P rd l is (putA d v fr) σ K
  | none=>False
def bak (C:CallW) (P:Program) (rd:Bool) (d:Option Nat) (l:List LStep) (is:List Item) (K:KC) (fr:Fr) (v:AV) (σ:St):Prop:=runS C P rd l is (putA d v fr) σ K
def call (C:CallW) (P:Program) (rd:Bool) (d:Option Nat) (l:List LStep) (is:List Item) (K:KC) (σ:St) (g:AV) (r:List AV×Fr):Prop :=
  match g with
  | .fn (.func h) first captured=>C (.fn h) (first ++ r.1 ++ captured) σ (bak C P rd d l is K r.2)
  | .yield h=>C (.yield h) r.1 σ (bak C P rd d l is K r.2)
  | _=>False
def mayb:LOp→Fr→Bool
  | .bin op (.ref 1) x y,fr=>isEq op && maybeNil (seL fr x) (seL fr y)
  | _,_=>false
def mb (C:CallW) (P:Program) (rd:Bool) (d:Option Nat) (l:List LStep) (is:List Item) (K:KC) (fr:Fr) (σ:St) (q:Prop):Bool→Prop
  | true=>∀b,runS C P rd l is (putA d (.bool b) fr) σ K
  | false=>q
def opS (C:CallW) (P:Program) (rd:Bool) (d:Option Nat) (op:LOp) (l:List LStep) (is:List Item) (fr:Fr) (σ:St) (K:KC):Prop :=
  mb C P rd d l is K fr σ (doL C op (settleL fr (settledL op)) σ fun v fr' σ'=>runS C P rd l is (putA d v fr') σ' K) (mayb op fr)
def grd (C:CallW) (P:Program) (rd:Bool) (d:Option Nat) (op:LOp) (l:List LStep) (is:List Item) (fr:Fr) (σ:St) (K:KC):Option Bool→Prop
  | some g=>(g=true→opS C P rd d op l is fr σ K)∧(g=false→runS C P rd l is (putA d (.tup []) fr) σ K)
  | none=>False
theorem runS_nil {is fr σ K}:runS C P rd [] is fr σ K=nxt C P rd is fr σ K:=(rfl)
theorem runS_op {d op l is fr σ K}:runS C P rd (⟨d,none,op⟩ :: l) is fr σ K=opS C P rd d op l is fr σ K:=by
  have e:maybeS ⟨d,none,op⟩ fr=mayb op fr:=by
    unfold maybeS mayb
    split
    · rename_i h; dsimp only at h; subst h; simp [guardL]
    · rename_i h
      split
      · rename_i h'; exact (h _ _ _ rfl).elim
      · rfl
  simp only [runS,seqL,opS,e]
  cases mayb op fr with
  | true=>rfl
  | false=>simp only [stepL,guardL,mb,true_implies,reduceCtorEq,false_implies,and_true,runS]
theorem runS_grd {d j w op l is fr σ K}:runS C P rd (⟨d,some (j,w),op⟩ :: l) is fr σ K=grd C P rd d op l is fr σ K (guardL fr (some (j,w))):=by
  have e:maybeS ⟨d,some (j,w),op⟩ fr=(mayb op fr && (guardL fr (some (j,w))) == some true):=by
    unfold maybeS mayb
    split
    · rename_i h; dsimp only at h; subst h
      cases hg:guardL fr (some (j,w)) with
      | none=>simp
      | some b=>cases b <;> simp
    · rename_i h
      split
      · rename_i h'; exact (h _ _ _ rfl).elim
      · rfl
  simp only [runS,seqL,e]
  cases hg:guardL fr (some (j,w)) with
  | none =>
    rw [show (mayb op fr && (none:Option Bool) == some true)=false by simp]
    simp only [stepL,hg,grd]
  | some b =>
    cases b with
    | false =>
      rw [show (mayb op fr && some false == some true)=false by simp]
      simp only [stepL,hg,grd,reduceCtorEq,false_implies,true_implies,true_and,runS]
    | true =>
      rw [show (mayb op fr && some true == some true)=mayb op fr by simp]
      simp only [grd,reduceCtorEq,false_implies,true_implies,and_true,opS]
      cases mayb op fr with
      | true=>rfl
      | false=>simp only [stepL,hg,mb,true_implies,reduceCtorEq,false_implies,and_true,runS]
theorem grd_true {d op l is fr σ K}:grd C P rd d op l is fr σ K (some true)=opS C P rd d op l is fr σ K:=by simp [grd]
theorem grd_false {d op l is fr σ K}:grd C P rd d op l is fr σ K (some false)=runS C P rd l is (putA d (.tup []) fr) σ K:=by simp [grd]
theorem opS_plain {d op l is fr σ K} (hp:op.plain=true) (hm:mayb op fr=false):opS C P rd d op l is fr σ K=thn C P rd d l is K (evL op (settleL fr (settledL op)) σ):=by
  unfold opS
  rw [doL_plain hp,hm]
  show (match evL op (settleL fr (settledL op)) σ with | some r=>_ | none=>False)=_
  cases evL op (settleL fr (settledL op)) σ <;> rfl
theorem thn_some {d l is K v fr σ}:thn C P rd d l is K (some (v,fr,σ))=runS C P rd l is (putA d v fr) σ K:=(rfl)
theorem opS_call {d g args l is fr σ K}:opS C P rd d (.call g args) l is fr σ K=call C P rd d l is K σ (seL fr g) (tkAllL fr args):=by
  unfold opS call
  rw [show mayb (.call g args) fr=false from rfl]
  simp only [mb]
  unfold doL
  simp only [settledL,settleL]
  cases seL fr g with
  | fn fn a c=>cases fn <;> rfl
  | _=>rfl
theorem call_fn {d l is K σ h a c vs fr}:call C P rd d l is K σ (.fn (.func h) a c) (vs,fr)=C (.fn h) (a ++ vs ++ c) σ (bak C P rd d l is K fr):=(rfl)
theorem call_yield {d l is K σ h vs fr}:call C P rd d l is K σ (.yield h) (vs,fr)=C (.yield h) vs σ (bak C P rd d l is K fr):=(rfl)
theorem bak_eq {d l is K fr v σ}:bak C P rd d l is K fr v σ=runS C P rd l is (putA d v fr) σ K:=(rfl)
theorem e_mv {d tk x l is fr σ K}:opS C P rd d (.mv tk x) l is fr σ K=runS C P rd l is (putA d (tkL tk fr x).1 (tkL tk fr x).2) σ K:=(rfl)
theorem e_pick {d c a b l is fr σ K}:opS C P rd d (.pick c a b) l is fr σ K=thn C P rd d l is K (evL (.pick c a b) fr σ):=opS_plain rfl rfl
theorem e_alloc {d hp z l is fr σ K}:opS C P rd d (.alloc hp z) l is fr σ K=thn C P rd d l is K ((newBox hp z σ).map fun r=>(.ptr r.1 0,fr,r.2)):=opS_plain rfl rfl
theorem e_box {d tk hp x l is fr σ K}:opS C P rd d (.box tk hp x) l is fr σ K=thn C P rd d l is K (evL (.box tk hp x) fr σ):=opS_plain rfl rfl
theorem e_build {d z ps l is fr σ K}:opS C P rd d (.build z ps) l is fr σ K=thn C P rd d l is K (evL (.build z ps) (settleL fr (ps.map (·.2.2))) σ):=opS_plain rfl rfl
theorem e_bsl {d e n ps l is fr σ K}:opS C P rd d (.bsl e n ps) l is fr σ K=thn C P rd d l is K (evL (.bsl e n ps) (settleL fr (ps.map (·.2))) σ):=opS_plain rfl rfl
theorem e_loadA {d n x l is fr σ K}:opS C P rd d (.loadA n x) l is fr σ K=thn C P rd d l is K ((readA σ (seL fr x) n).map fun v=>(v,fr,σ)):=opS_plain rfl rfl
theorem e_load1 {d tk x l is fr σ K}:opS C P rd d (.load1 tk x) l is fr σ K=thn C P rd d l is K ((load1L tk (seL fr x) σ).map fun r=>(r.1,fr,r.2)):=opS_plain rfl rfl
theorem e_store {d n p x l is fr σ K}:opS C P rd d (.store n p x) l is fr σ K=thn C P rd d l is K ((storeL n (seL (tkL true fr x).2 p) (tkL true fr x).1.calm σ).map fun σ=>(.undef,(tkL true fr x).2,σ)):=opS_plain rfl rfl
theorem e_stu {d p x l is fr σ K}:opS C P rd d (.stu p x) l is fr σ K=thn C P rd d l is K ((storeUL (seL (tkL true fr x).2 p) (tkL true fr x).1 σ).map fun σ=>(.undef,(tkL true fr x).2,σ)):=opS_plain rfl rfl
theorem e_nilc {d x l is fr σ K}:opS C P rd d (.nilc x) l is fr σ K=thn C P rd d l is K (evL (.nilc x) fr σ):=opS_plain rfl rfl
theorem e_bin {d op k x y l is fr σ K}:opS C P rd d (.bin op k x y) l is fr σ K=mb C P rd d l is K fr σ (thn C P rd d l is K ((binL op k (seL fr x) (seL fr y)).map fun v=>(v,fr,σ))) (mayb (.bin op k x y) fr):=by
  cases hm:mayb (.bin op k x y) fr with
  | false=>exact opS_plain rfl hm
  | true=>unfold opS; rw [hm]; rfl
theorem mb_t {d l is K fr σ q}:mb C P rd d l is K fr σ q true=∀b,runS C P rd l is (putA d (.bool b) fr) σ K:=(rfl)
theorem mb_f {d l is K fr σ q}:mb C P rd d l is K fr σ q false=q:=(rfl)
theorem mayb_sc {op x y fr}:mayb (.bin op .sc x y) fr=false:=(rfl)
theorem mayb_bl {op x y fr}:mayb (.bin op .bl x y) fr=false:=(rfl)
theorem mayb_leaf {op ls x y fr}:mayb (.bin op (.leaf ls) x y) fr=false:=(rfl)
theorem mayb_r0 {op x y fr}:mayb (.bin op (.ref 0) x y) fr=false:=(rfl)
theorem mayb_r1 {op x y fr}:mayb (.bin op (.ref 1) x y) fr=(isEq op && maybeNil (seL fr x) (seL fr y)):=(rfl)
theorem mayb_r2 {op x y fr}:mayb (.bin op (.ref 2) x y) fr=false:=(rfl)
theorem mayb_r3 {op x y fr}:mayb (.bin op (.ref 3) x y) fr=false:=(rfl)
theorem e_un {d op x l is fr σ K}:opS C P rd d (.un op x) l is fr σ K=thn C P rd d l is K ((unL op (seL fr x)).map fun v=>(v,fr,σ)):=opS_plain rfl rfl
theorem e_conv {d k x l is fr σ K}:opS C P rd d (.conv k x) l is fr σ K=thn C P rd d l is K ((convL k (seL (settleL fr [x]) x) σ).map fun v=>(v,settleL fr [x],σ)):=opS_plain rfl rfl
theorem e_mkfn {d f a b l is fr σ K}:opS C P rd d (.mkfn f a b) l is fr σ K=runS C P rd l is (putA d (.fn (.func f) (a.map (seL fr)) (b.map (seL fr))) fr) σ K:=(rfl)
theorem e_mkmap {d r l is fr σ K}:opS C P rd d (.mkmap r) l is fr σ K=thn C P rd d l is K (evL (.mkmap r) fr σ):=opS_plain rfl rfl
theorem e_mksl {d tk hp e a c l is fr σ K}:opS C P rd d (.mksl tk hp e a c) l is fr σ K=thn C P rd d l is K ((mkslL tk hp e (seL fr a) (seL fr c) σ).map fun r=>(r.1,fr,r.2)):=opS_plain rfl rfl
theorem e_slc {d k x lo hi mx l is fr σ K}:opS C P rd d (.slc k x lo hi mx) l is fr σ K=thn C P rd d l is K ((sliceL k (seL (settleL fr [x]) x) (lo.map (seL (settleL fr [x]))) (hi.map (seL (settleL fr [x]))) (mx.map (seL (settleL fr [x])))).map fun v=>(v,settleL fr [x],σ)):=opS_plain rfl rfl
theorem e_shift {d o x l is fr σ K}:opS C P rd d (.shift o x) l is fr σ K=thn C P rd d l is K ((shift (seL fr x) o).map fun v=>(v,fr,σ)):=opS_plain rfl rfl
theorem e_part {d ag o x l is fr σ K}:opS C P rd d (.part ag o x) l is fr σ K=thn C P rd d l is K (evL (.part ag o x) fr σ):=opS_plain rfl rfl
theorem e_ixa {d k x i l is fr σ K}:opS C P rd d (.ixa k x i) l is fr σ K=thn C P rd d l is K ((indexAddrL k (seL (settleL fr [x]) x) (seL (settleL fr [x]) i)).map fun v=>(v,settleL fr [x],σ)):=opS_plain rfl rfl
theorem e_ixs {d x i l is fr σ K}:opS C P rd d (.ixs x i) l is fr σ K=thn C P rd d l is K (evL (.ixs x i) fr σ):=opS_plain rfl rfl
theorem e_ixv {d n c ag x i l is fr σ K}:opS C P rd d (.ixv n c ag x i) l is fr σ K=thn C P rd d l is K (evL (.ixv n c ag x i) fr σ):=opS_plain rfl rfl
theorem e_look {d kk z ok m k l is fr σ K}:opS C P rd d (.look kk z ok m k) l is fr σ K=thn C P rd d l is K ((lookupL kk z ok (seL fr m) (seL fr k) σ).map fun v=>(v,fr,σ)):=opS_plain rfl rfl
theorem e_upd {d kk m k v l is fr σ K}:opS C P rd d (.upd kk m k v) l is fr σ K=thn C P rd d l is K (evL (.upd kk m k v) (settleL fr [v]) σ):=opS_plain rfl rfl
theorem e_ext {d x i l is fr σ K}:opS C P rd d (.ext x i) l is fr σ K=thn C P rd d l is K (evL (.ext x i) fr σ):=opS_plain rfl rfl
theorem e_len {d k x l is fr σ K}:opS C P rd d (.len k x) l is fr σ K=thn C P rd d l is K ((lenL k (seL (settleL fr [x]) x) σ).map fun (n:Nat)=>(AV.i n,settleL fr [x],σ)):=opS_plain rfl rfl
theorem e_cap {d x l is fr σ K}:opS C P rd d (.cap x) l is fr σ K=thn C P rd d l is K ((capL (seL (settleL fr [x]) x)).map fun (n:Nat)=>(AV.i n,settleL fr [x],σ)):=opS_plain rfl rfl
theorem e_app {d e b s x l is fr σ K}:opS C P rd d (.app e b s x) l is fr σ K=thn C P rd d l is K (evL (.app e b s x) (settleL fr [x]) σ):=opS_plain rfl rfl
theorem e_cpy {d e b s x l is fr σ K}:opS C P rd d (.cpy e b s x) l is fr σ K=thn C P rd d l is K ((copyL e b (seL fr s) (seL fr x) σ).map fun r=>(r.1,fr,r.2)):=opS_plain rfl rfl
theorem e_del {d kk m k l is fr σ K}:opS C P rd d (.del kk m k) l is fr σ K=thn C P rd d l is K ((deleteL kk (seL fr m) (seL fr k) σ).map fun σ=>(.tup [],fr,σ)):=opS_plain rfl rfl
theorem e_clr {d e x l is fr σ K}:opS C P rd d (.clr e x) l is fr σ K=thn C P rd d l is K ((clearL e (seL fr x) σ).map fun σ=>(.tup [],fr,σ)):=opS_plain rfl rfl
theorem e_mn {d x y l is fr σ K}:opS C P rd d (.mn x y) l is fr σ K=thn C P rd d l is K (evL (.mn x y) fr σ):=opS_plain rfl rfl
theorem e_mx {d x y l is fr σ K}:opS C P rd d (.mx x y) l is fr σ K=thn C P rd d l is K (evL (.mx x y) fr σ):=opS_plain rfl rfl
theorem e_thaw {d t l is fr σ K}:opS C P rd d (.thaw t) l is fr σ K=thn C P rd d l is K (AM.thaw fr (.tmp t) σ):=opS_plain rfl rfl
theorem e_frz {d e x l is fr σ K}:opS C P rd d (.frz e x) l is fr σ K=thn C P rd d l is K ((freezeL e (seL fr x) σ).map fun r=>(r.1,fr,r.2)):=opS_plain rfl rfl
def rdV (C:CallW) (P:Program) (rd:Bool) (s:LStep) (i:Nat) (ck:Bool) (rest:LT) (chk:List LChk) (is:List Item) (fr:Fr) (σ:St) (K:KC):Option AV→Prop
  | some v=>runT C P rd rest (if (ck && depL fr s.op)=true then ⟨i,s,fr,v⟩ :: chk else chk) is (putA s.dst v fr) σ K
  | none=>False
def rdG (C:CallW) (P:Program) (rd:Bool) (s:LStep) (i:Nat) (ck:Bool) (rest:LT) (chk:List LChk) (is:List Item) (fr:Fr) (σ:St) (K:KC):Option Bool→Prop
  | some g=>(g=true→rdV C P rd s i ck rest chk is fr σ K (readL s fr σ))∧(g=false→runT C P rd rest chk is (putA s.dst (.tup []) fr) σ K)
  | none=>False
def mvK (C:CallW) (P:Program) (rd:Bool) (drop:List Nat) (chk:List LChk) (rest:LT) (is:List Item) (K:KC) (fr:Fr) (σ:St):Prop :=
  (chk.filter fun c => !drop.contains c.i).all (fun c=>c.ok σ)=true∧runT C P rd rest (chk.filter fun c => !drop.contains c.i) is fr σ K
def opT (C:CallW) (P:Program) (rd:Bool) (d:Option Nat) (op:LOp) (drop:List Nat) (chk:List LChk) (rest:LT) (is:List Item) (K:KC) (fr:Fr) (σ:St):Prop :=
  doL C op (settleL fr (settledL op)) σ fun v fr' σ'=>mvK C P rd drop chk rest is K (putA d v fr') σ'
def mvG (C:CallW) (P:Program) (rd:Bool) (d:Option Nat) (op:LOp) (drop:List Nat) (chk:List LChk) (rest:LT) (is:List Item) (K:KC) (fr:Fr) (σ:St):Option Bool→Prop
  | some g=>(g=true→opT C P rd d op drop chk rest is K fr σ)∧(g=false→mvK C P rd drop chk rest is K (putA d (.tup []) fr) σ)
  | none=>False
def thnT (C:CallW) (P:Program) (rd:Bool) (d:Option Nat) (drop:List Nat) (chk:List LChk) (rest:LT) (is:List Item) (K:KC):Option (AV×Fr×St)→Prop
  | some (v,fr,σ)=>mvK C P rd drop chk rest is K (putA d v fr) σ
  | none=>False
def bakT (C:CallW) (P:Program) (rd:Bool) (d:Option Nat) (drop:List Nat) (chk:List LChk) (rest:LT) (is:List Item) (K:KC) (fr:Fr) (v:AV) (σ:St):Prop:=mvK C P rd drop chk rest is K (putA d v fr) σ
def callT (C:CallW) (P:Program) (rd:Bool) (d:Option Nat) (drop:List Nat) (chk:List LChk) (rest:LT) (is:List Item) (K:KC) (σ:St) (g:AV) (r:List AV×Fr):Prop :=
  match g with
  | .fn (.func h) first captured=>C (.fn h) (first ++ r.1 ++ captured) σ (bakT C P rd d drop chk rest is K r.2)
  | .yield h=>C (.yield h) r.1 σ (bakT C P rd d drop chk rest is K r.2)
  | _=>False
theorem runT_done {chk is fr σ K}:runT C P rd .done chk is fr σ K=nxt C P rd is fr σ K:=(rfl)
theorem runT_stop {chk is fr σ K}:runT C P rd .stop chk is fr σ K=True:=(rfl)
theorem runT_rd {s i ck rest chk is fr σ K}:runT C P rd (.rd s i ck rest) chk is fr σ K=rdG C P rd s i ck rest chk is fr σ K (guardL fr s.guard):=by
  show (match guardL fr s.guard with | some g=>_ | none=>False)=_
  cases guardL fr s.guard with
  | none=>rfl
  | some g =>
    show (_∧_)=(_∧_)
    refine congr (congrArg And ?_) rfl
    cases readL s fr σ <;> rfl
theorem rdG_true {s i ck rest chk is fr σ K}:rdG C P rd s i ck rest chk is fr σ K (some true)=rdV C P rd s i ck rest chk is fr σ K (readL s fr σ):=by simp [rdG]
theorem rdG_false {s i ck rest chk is fr σ K}:rdG C P rd s i ck rest chk is fr σ K (some false)=runT C P rd rest chk is (putA s.dst (.tup []) fr) σ K:=by simp [rdG]
theorem rdV_some {s i ck rest chk is fr σ K v}:rdV C P rd s i ck rest chk is fr σ K (some v)=runT C P rd rest (if (ck && depL fr s.op)=true then ⟨i,s,fr,v⟩ :: chk else chk) is (putA s.dst v fr) σ K:=(rfl)
theorem runT_mv {d g op drop rest alt chk is fr σ K}:runT C P rd (.mv ⟨d,g,op⟩ drop rest alt) chk is fr σ K=(mvG C P rd d op drop chk rest is K fr σ (guardL fr g)∧runT C P rd alt chk is fr σ K):=by
  show (stepL C ⟨d,g,op⟩ fr σ _∧_)=_
  refine congr (congrArg And ?_) rfl
  unfold stepL
  cases guardL fr g <;> rfl
theorem mvG_true {d op drop rest chk is fr σ K}:mvG C P rd d op drop chk rest is K fr σ (some true)=opT C P rd d op drop chk rest is K fr σ:=by simp [mvG]
theorem mvG_false {d op drop rest chk is fr σ K}:mvG C P rd d op drop chk rest is K fr σ (some false)=mvK C P rd drop chk rest is K (putA d (.tup []) fr) σ:=by simp [mvG]
theorem opT_plain {d op drop rest chk is fr σ K} (hp:op.plain=true):opT C P rd d op drop chk rest is K fr σ=thnT C P rd d drop chk rest is K (evL op (settleL fr (settledL op)) σ):=by
  unfold opT
  rw [doL_plain hp]
  cases evL op (settleL fr (settledL op)) σ <;> rfl
theorem t_mv {d tk x drop rest chk is fr σ K}:opT C P rd d (.mv tk x) drop chk rest is K fr σ=thnT C P rd d drop chk rest is K (evL (.mv tk x) (settleL fr (settledL (.mv tk x))) σ):=opT_plain rfl
theorem t_pick {d c a b drop rest chk is fr σ K}:opT C P rd d (.pick c a b) drop chk rest is K fr σ=thnT C P rd d drop chk rest is K (evL (.pick c a b) (settleL fr (settledL (.pick c a b))) σ):=opT_plain rfl
theorem t_alloc {d hp z drop rest chk is fr σ K}:opT C P rd d (.alloc hp z) drop chk rest is K fr σ=thnT C P rd d drop chk rest is K (evL (.alloc hp z) (settleL fr (settledL (.alloc hp z))) σ):=opT_plain rfl
theorem t_box {d tk hp x drop rest chk is fr σ K}:opT C P rd d (.box tk hp x) drop chk rest is K fr σ=thnT C P rd d drop chk rest is K (evL (.box tk hp x) (settleL fr (settledL (.box tk hp x))) σ):=opT_plain rfl
theorem t_build {d z ps drop rest chk is fr σ K}:opT C P rd d (.build z ps) drop chk rest is K fr σ=thnT C P rd d drop chk rest is K (evL (.build z ps) (settleL fr (settledL (.build z ps))) σ):=opT_plain rfl
theorem t_bsl {d e n ps drop rest chk is fr σ K}:opT C P rd d (.bsl e n ps) drop chk rest is K fr σ=thnT C P rd d drop chk rest is K (evL (.bsl e n ps) (settleL fr (settledL (.bsl e n ps))) σ):=opT_plain rfl
theorem t_loadA {d n x drop rest chk is fr σ K}:opT C P rd d (.loadA n x) drop chk rest is K fr σ=thnT C P rd d drop chk rest is K (evL (.loadA n x) (settleL fr (settledL (.loadA n x))) σ):=opT_plain rfl
theorem t_load1 {d tk x drop rest chk is fr σ K}:opT C P rd d (.load1 tk x) drop chk rest is K fr σ=thnT C P rd d drop chk rest is K (evL (.load1 tk x) (settleL fr (settledL (.load1 tk x))) σ):=opT_plain rfl
theorem t_store {d n p x drop rest chk is fr σ K}:opT C P rd d (.store n p x) drop chk rest is K fr σ=thnT C P rd d drop chk rest is K (evL (.store n p x) (settleL fr (settledL (.store n p x))) σ):=opT_plain rfl
theorem t_stu {d p x drop rest chk is fr σ K}:opT C P rd d (.stu p x) drop chk rest is K fr σ=thnT C P rd d drop chk rest is K (evL (.stu p x) (settleL fr (settledL (.stu p x))) σ):=opT_plain rfl
theorem t_nilc {d x drop rest chk is fr σ K}:opT C P rd d (.nilc x) drop chk rest is K fr σ=thnT C P rd d drop chk rest is K (evL (.nilc x) (settleL fr (settledL (.nilc x))) σ):=opT_plain rfl
theorem t_bin {d op k x y drop rest chk is fr σ K}:opT C P rd d (.bin op k x y) drop chk rest is K fr σ=thnT C P rd d drop chk rest is K (evL (.bin op k x y) (settleL fr (settledL (.bin op k x y))) σ):=opT_plain rfl
theorem t_un {d op x drop rest chk is fr σ K}:opT C P rd d (.un op x) drop chk rest is K fr σ=thnT C P rd d drop chk rest is K (evL (.un op x) (settleL fr (settledL (.un op x))) σ):=opT_plain rfl
theorem t_conv {d k x drop rest chk is fr σ K}:opT C P rd d (.conv k x) drop chk rest is K fr σ=thnT C P rd d drop chk rest is K (evL (.conv k x) (settleL fr (settledL (.conv k x))) σ):=opT_plain rfl
theorem t_mkfn {d f a b drop rest chk is fr σ K}:opT C P rd d (.mkfn f a b) drop chk rest is K fr σ=thnT C P rd d drop chk rest is K (evL (.mkfn f a b) (settleL fr (settledL (.mkfn f a b))) σ):=opT_plain rfl
theorem t_mkmap {d r drop rest chk is fr σ K}:opT C P rd d (.mkmap r) drop chk rest is K fr σ=thnT C P rd d drop chk rest is K (evL (.mkmap r) (settleL fr (settledL (.mkmap r))) σ):=opT_plain rfl
theorem t_mksl {d tk hp e a c drop rest chk is fr σ K}:opT C P rd d (.mksl tk hp e a c) drop chk rest is K fr σ=thnT C P rd d drop chk rest is K (evL (.mksl tk hp e a c) (settleL fr (settledL (.mksl tk hp e a c))) σ):=opT_plain rfl
theorem t_slc {d k x lo hi mx drop rest chk is fr σ K}:opT C P rd d (.slc k x lo hi mx) drop chk rest is K fr σ=thnT C P rd d drop chk rest is K (evL (.slc k x lo hi mx) (settleL fr (settledL (.slc k x lo hi mx))) σ):=opT_plain rfl
theorem t_shift {d o x drop rest chk is fr σ K}:opT C P rd d (.shift o x) drop chk rest is K fr σ=thnT C P rd d drop chk rest is K (evL (.shift o x) (settleL fr (settledL (.shift o x))) σ):=opT_plain rfl
theorem t_part {d ag o x drop rest chk is fr σ K}:opT C P rd d (.part ag o x) drop chk rest is K fr σ=thnT C P rd d drop chk rest is K (evL (.part ag o x) (settleL fr (settledL (.part ag o x))) σ):=opT_plain rfl
theorem t_ixa {d k x i drop rest chk is fr σ K}:opT C P rd d (.ixa k x i) drop chk rest is K fr σ=thnT C P rd d drop chk rest is K (evL (.ixa k x i) (settleL fr (settledL (.ixa k x i))) σ):=opT_plain rfl
theorem t_ixs {d x i drop rest chk is fr σ K}:opT C P rd d (.ixs x i) drop chk rest is K fr σ=thnT C P rd d drop chk rest is K (evL (.ixs x i) (settleL fr (settledL (.ixs x i))) σ):=opT_plain rfl
theorem t_ixv {d n c ag x i drop rest chk is fr σ K}:opT C P rd d (.ixv n c ag x i) drop chk rest is K fr σ=thnT C P rd d drop chk rest is K (evL (.ixv n c ag x i) (settleL fr (settledL (.ixv n c ag x i))) σ):=opT_plain rfl
theorem t_look {d kk z ok m k drop rest chk is fr σ K}:opT C P rd d (.look kk z ok m k) drop chk rest is K fr σ=thnT C P rd d drop chk rest is K (evL (.look kk z ok m k) (settleL fr (settledL (.look kk z ok m k))) σ):=opT_plain rfl
theorem t_upd {d kk m k v drop rest chk is fr σ K}:opT C P rd d (.upd kk m k v) drop chk rest is K fr σ=thnT C P rd d drop chk rest is K (evL (.upd kk m k v) (settleL fr (settledL (.upd kk m k v))) σ):=opT_plain rfl
theorem t_ext {d x i drop rest chk is fr σ K}:opT C P rd d (.ext x i) drop chk rest is K fr σ=thnT C P rd d drop chk rest is K (evL (.ext x i) (settleL fr (settledL (.ext x i))) σ):=opT_plain rfl
theorem t_len {d k x drop rest chk is fr σ K}:opT C P rd d (.len k x) drop chk rest is K fr σ=thnT C P rd d drop chk rest is K (evL (.len k x) (settleL fr (settledL (.len k x))) σ):=opT_plain rfl
theorem t_cap {d x drop rest chk is fr σ K}:opT C P rd d (.cap x) drop chk rest is K fr σ=thnT C P rd d drop chk rest is K (evL (.cap x) (settleL fr (settledL (.cap x))) σ):=opT_plain rfl
theorem t_app {d e b s x drop rest chk is fr σ K}:opT C P rd d (.app e b s x) drop chk rest is K fr σ=thnT C P rd d drop chk rest is K (evL (.app e b s x) (settleL fr (settledL (.app e b s x))) σ):=opT_plain rfl
theorem t_cpy {d e b s x drop rest chk is fr σ K}:opT C P rd d (.cpy e b s x) drop chk rest is K fr σ=thnT C P rd d drop chk rest is K (evL (.cpy e b s x) (settleL fr (settledL (.cpy e b s x))) σ):=opT_plain rfl
theorem t_del {d kk m k drop rest chk is fr σ K}:opT C P rd d (.del kk m k) drop chk rest is K fr σ=thnT C P rd d drop chk rest is K (evL (.del kk m k) (settleL fr (settledL (.del kk m k))) σ):=opT_plain rfl
theorem t_clr {d e x drop rest chk is fr σ K}:opT C P rd d (.clr e x) drop chk rest is K fr σ=thnT C P rd d drop chk rest is K (evL (.clr e x) (settleL fr (settledL (.clr e x))) σ):=opT_plain rfl
theorem t_mn {d x y drop rest chk is fr σ K}:opT C P rd d (.mn x y) drop chk rest is K fr σ=thnT C P rd d drop chk rest is K (evL (.mn x y) (settleL fr (settledL (.mn x y))) σ):=opT_plain rfl
theorem t_mx {d x y drop rest chk is fr σ K}:opT C P rd d (.mx x y) drop chk rest is K fr σ=thnT C P rd d drop chk rest is K (evL (.mx x y) (settleL fr (settledL (.mx x y))) σ):=opT_plain rfl
theorem t_thaw {d t drop rest chk is fr σ K}:opT C P rd d (.thaw t) drop chk rest is K fr σ=thnT C P rd d drop chk rest is K (evL (.thaw t) (settleL fr (settledL (.thaw t))) σ):=opT_plain rfl
theorem t_frz {d e x drop rest chk is fr σ K}:opT C P rd d (.frz e x) drop chk rest is K fr σ=thnT C P rd d drop chk rest is K (evL (.frz e x) (settleL fr (settledL (.frz e x))) σ):=opT_plain rfl
theorem thnT_some {d drop rest chk is K v fr σ}:thnT C P rd d drop chk rest is K (some (v,fr,σ))=mvK C P rd drop chk rest is K (putA d v fr) σ:=(rfl)
theorem opT_call {d g args drop rest chk is fr σ K}:opT C P rd d (.call g args) drop chk rest is K fr σ=callT C P rd d drop chk rest is K σ (seL fr g) (tkAllL fr args):=by
  unfold opT callT doL
  simp only [settledL,settleL]
  cases seL fr g with
  | fn fn a c=>cases fn <;> rfl
  | _=>rfl
theorem callT_fn {d drop rest chk is K σ h a c vs fr}:callT C P rd d drop chk rest is K σ (.fn (.func h) a c) (vs,fr)=C (.fn h) (a ++ vs ++ c) σ (bakT C P rd d drop chk rest is K fr):=(rfl)
theorem callT_yield {d drop rest chk is K σ h vs fr}:callT C P rd d drop chk rest is K σ (.yield h) (vs,fr)=C (.yield h) vs σ (bakT C P rd d drop chk rest is K fr):=(rfl)
theorem bakT_eq {d drop rest chk is K fr v σ}:bakT C P rd d drop chk rest is K fr v σ=mvK C P rd drop chk rest is K (putA d v fr) σ:=(rfl)
theorem mvK_nil {drop rest is K fr σ}:mvK C P rd drop [] rest is K fr σ=runT C P rd rest [] is fr σ K:=by simp [mvK]
theorem unfC {x y:LCode} (h:x=y):∀{C:CallW} {P:Program} {rd:Bool} {is:List Item} {fr:Fr} {σ:St} {K:KC},runC C P rd x is fr σ K=runC C P rd y is fr σ K:=by subst h; intros; rfl
def cs (l:List FuncId) (n:Nat):FuncId:=l.getD n 0
def fin (base:Nat) (rs:List LR) (K:AV→St→Prop):KC:=finL base rs K
theorem run_fn {F:LFn} {args:List AV} {S H} {K:AV→St→Prop}:runL C P F args ⟨S,H⟩ K=runC C P false F.code [] (args ++ List.replicate (F.ntmps - args.length) .undef) ⟨S,H⟩ (fin S.length F.res K):=(rfl)
def end1 (base:Nat) (K:AV→St→Prop) (σ:St):Option (List AV)→Prop
  | some [v]=>v.under base=true∧K v { σ with stk:=σ.stk.take base }
  | some vs=>underL base vs=true∧K (.tup (vs.map AV.look)) { σ with stk:=σ.stk.take base }
  | none=>False
theorem fin_ret {base rs K fr σ}:fin base rs K .ret fr σ=end1 base K σ (ressL fr σ rs):=(rfl)
theorem fin_normal {base rs K fr σ}:fin base rs K .normal fr σ=end1 base K σ (ressL fr σ rs):=(rfl)
theorem end1_nil {base K S H}:end1 base K ⟨S,H⟩ (some [])=K (.tup []) ⟨S.take base,H⟩:=by simp [end1,AV.under.go]
theorem end1_one {base K S H v}:end1 base K ⟨S,H⟩ (some [v])=(v.under base=true∧K v ⟨S.take base,H⟩):=(rfl)
theorem end1_two {base K S H v u}:end1 base K ⟨S,H⟩ (some [v,u])=(underL base [v,u]=true∧K (.tup [v.look,u.look]) ⟨S.take base,H⟩):=(rfl)
theorem end1_three {base K S H v u t}:end1 base K ⟨S,H⟩ (some [v,u,t])=(underL base [v,u,t]=true∧K (.tup [v.look,u.look,t.look]) ⟨S.take base,H⟩):=(rfl)
theorem end1_four {base K S H v u t s}:end1 base K ⟨S,H⟩ (some [v,u,t,s])=(underL base [v,u,t,s]=true∧K (.tup [v.look,u.look,t.look,s.look]) ⟨S.take base,H⟩):=(rfl)
def cns (v:AV):Option (List AV)→Option (List AV)
  | some vs=>some (v :: vs)
  | none=>none
theorem ress_nil {fr σ}:ressL fr σ []=some []:=(rfl)
theorem ress_t {fr σ n rs}:ressL fr σ (.t n :: rs)=cns (fr.getD n .undef) (ressL fr σ rs):=by
  simp only [ressL,resL]
  cases ressL fr σ rs <;> rfl
theorem cns_some {v vs}:cns v (some vs)=some (v :: vs):=(rfl)
def cns2 (v:Option AV) (r:Option (List AV)):Option (List AV):=match v with
  | some v=>cns v r
  | none=>none
theorem ress_many {fr σ a n rs}:ressL fr σ (.many a n :: rs)=cns2 (readA σ (fr.getD a .undef) n) (ressL fr σ rs):=by
  simp only [ressL,resL,cns2]
  cases readA σ (fr.getD a .undef) n <;> cases ressL fr σ rs <;> rfl
theorem ress_one {fr σ a rs}:ressL fr σ (.one a :: rs)=cns2 ((load1L false (fr.getD a .undef) σ).map (·.1)) (ressL fr σ rs):=by
  simp only [ressL,resL,cns2]
  cases (load1L false (fr.getD a .undef) σ).map (·.1) <;> cases ressL fr σ rs <;> rfl
theorem cns2_some {v r}:cns2 (some v) r=cns v r:=(rfl)
theorem doL_mono (hC:LeC C C) {op:LOp} {fr σ} {K K':AV→Fr→St→Prop} (hK:∀v fr σ,K v fr σ→K' v fr σ):doL C op fr σ K→doL C op fr σ K':=by
  unfold doL
  split
  · split
    · split
      · exact fun h1=>hK _ _ _ h1
      · exact id
    · exact fun h1=>hK _ _ _ h1
    · exact id
  · split
    · split
      · exact fun h1=>hK _ _ _ h1
      · split
        · exact fun h1=>⟨h1.1,fun k=>hK _ _ _ (h1.2.1 k),fun e he hs=>hK _ _ _ (h1.2.2 e he hs)⟩
        · exact id
    · exact id
  · split
    · split
      · split
        · refine fun h1=>⟨h1.1,?_⟩
          have h2:=h1.2
          split at h2
          · exact hK _ _ _ h2
          · exact h2
        · exact id
      · exact id
    · exact id
  · split
    · exact fun h1=>hC _ _ _ _ _ (fun v s k=>hK _ _ _ k) h1
    · exact fun h1=>hC _ _ _ _ _ (fun v s k=>hK _ _ _ k) h1
    · exact id
  · split
    · exact fun h1=>hK _ _ _ h1
    · exact id
theorem stepL_mono (hC:LeC C C) {s:LStep} {fr σ} {K K':Fr→St→Prop} (hK:∀fr σ,K fr σ→K' fr σ) (h:stepL C s fr σ K):stepL C s fr σ K':=by
  unfold stepL at h ⊢
  split at h
  · exact ⟨fun hg=>doL_mono hC (fun _ _ _ k=>hK _ _ k) (h.1 hg),fun hg=>hK _ _ (h.2 hg)⟩
  · exact h
theorem seqL_mono {hC:LeC C C}:∀(l:List LStep) {fr σ} {K K':Fr→St→Prop},(∀fr σ,K fr σ→K' fr σ)→seqL C l fr σ K→seqL C l fr σ K':=by
  intro l
  induction l with
  | nil=>intro fr σ K K' hK h; exact hK _ _ h
  | cons s l ih =>
    intro fr σ K K' hK h
    simp only [seqL] at h ⊢
    split at h
    · exact fun b=>ih hK (h b)
    · exact stepL_mono hC (fun _ _ k=>ih hK k) h
theorem planL_mono (hC:LeC C C):∀(t:LT) {fr σ chk} {K K':Fr→St→Prop},(∀fr σ,K fr σ→K' fr σ)→planL C t fr σ chk K→planL C t fr σ chk K'
  | .done,fr,σ,chk,K,K',hK,h=>hK _ _ h
  | .stop,fr,σ,chk,K,K',hK,h=>trivial
  | .rd s i ck rest,fr,σ,chk,K,K',hK,h=>by
    simp only [planL] at h ⊢
    split at h
    · refine ⟨fun hg => ?_,fun hg=>planL_mono hC rest hK (h.2 hg)⟩
      have h1:=h.1 hg
      split at h1
      · exact planL_mono hC rest hK h1
      · exact h1
    · exact h
  | .mv s drop rest alt,fr,σ,chk,K,K',hK,h=>by
    simp only [planL] at h ⊢
    exact ⟨stepL_mono hC (fun fr σ k=>⟨k.1,planL_mono hC rest hK k.2⟩) h.1,planL_mono hC alt hK h.2⟩
theorem execL_mono (hC:LeC C C):∀(c:LCode) {fr σ} {K K':KC},(∀e fr σ,K e fr σ→K' e fr σ)→execL C P rd c fr σ K→execL C P rd c fr σ K'
  | .skip,fr,σ,K,K',hK,h=>hK _ _ _ h
  | .sq l,fr,σ,K,K',hK,h=>seqL_mono (hC:=hC) l (fun _ _ k=>hK _ _ _ k) h
  | .tree t,fr,σ,K,K',hK,h=>planL_mono hC t (fun _ _ k=>hK _ _ _ k) h
  | .seq a b,fr,σ,K,K',hK,h=>by
    simp only [execL] at h ⊢
    exact execL_mono hC a (roundK_mono (fun fr s h=>execL_mono hC b hK h) hK) h
  | .cond c a b,fr,σ,K,K',hK,h=>by
    simp only [execL] at h ⊢
    split at h
    · exact ⟨fun hx=>execL_mono hC a hK (h.1 hx),fun hx=>execL_mono hC b hK (h.2 hx)⟩
    · exact h
  | .block id b,fr,σ,K,K',hK,h=>by
    simp only [execL] at h ⊢
    exact execL_mono hC b (blockK_mono hK) h
  | .loop m b,fr,σ,K,K',hK,h=>by
    simp only [execL] at h ⊢
    intro I hI
    exact h I fun fr s hu hb=>hI fr s hu (execL_mono hC b (roundK_mono (fun _ _ h=>h) hK) hb)
  | .exit id,fr,σ,K,K',hK,h=>hK _ _ _ h
  | .ret,fr,σ,K,K',hK,h=>hK _ _ _ h
  | .rfun g f ps a b,fr,σ,K,K',hK,h=>by
    simp only [execL] at h ⊢
    refine ⟨h.1,?_⟩
    have h2:=h.2
    split at h2
    · refine ⟨h2.1,hC _ _ _ _ _ (fun v s hk => ?_) h2.2⟩
      split at hk
      · exact ⟨hk.1,hK _ _ _ hk.2⟩
      · exact hk
    · exact h2
  | .bad,fr,σ,K,K',hK,h=>h
theorem loop_step (hC : LeC C C) {m : List Bool} {b : LCode} {n0 : Nat} {is : List Item} {fr fr0 : Fr} {S : List (List AV)} {H : List HObj} {K : KC} (hk : keep m fr = fr0) (hu : underL n0 fr0 = true)
    (h:runC C P rd b (.lp m b n0 :: is) fr0 ⟨S.take n0,H⟩ K):runLp C P rd m b n0 is fr ⟨S,H⟩ K:=by
  subst hk
  exact loopW_fold (fun fr σ K K' hK h=>execL_mono hC b hK h) hu h
end
end Go.AM
namespace Go.AM
open Go
structure Key where
  b:List UInt8
  h:b.length=16
theorem Key.ext' {x y:Key} (h:x.b=y.b):x=y:=by cases x; cases y; cases h; rfl
instance:DecidableEq Key:=fun x y=>if h:x.b=y.b then isTrue (Key.ext' h) else isFalse fun e=>h (by rw [e])
def u8 (b:UInt8):AV := .s (.int .u8 b.toNat)
def bs (l:List UInt8):List AV:=l.map u8
abbrev Key.c (k:Key):List AV:=bs k.b
theorem kc_length (k:Key):(bs k.b).length=16:=by simp [bs,k.h]
theorem under_u8 (n:Nat) (b:UInt8):AV.under n (u8 b)=true:=rfl
theorem under_bs (n:Nat):∀(l:List UInt8),AV.under.go n (bs l)=true
  | []=>rfl
  | b :: l=>by simp only [bs,List.map_cons,AV.under.go,under_u8,Bool.true_and]; exact under_bs n l
theorem newBox_stk {cs:List AV} {S:List (List AV)} {H:List HObj} (h:underL S.length cs=true):newBox false cs ⟨S,H⟩=some (.stk S.length,⟨S ++ [cs],H⟩):=by
  unfold newBox; simp [h]
theorem newBox_heap {cs:List AV} {S:List (List AV)} {H:List HObj} (h:underL 0 cs=true):newBox true cs ⟨S,H⟩=some (.heap H.length,⟨S,H ++ [.cells cs]⟩):=by
  unfold newBox; simp [h]
theorem app_get0 {α:Type} (S l:List α):(S ++ l)[S.length]? = l[0]? := by rw [List.getElem?_append_right (Nat.le_refl _),Nat.sub_self]
theorem app_get {α:Type} (S l:List α) (k:Nat):(S ++ l)[S.length + k]? = l[k]? := by rw [List.getElem?_append_right (Nat.le_add_right _ _),Nat.add_sub_cancel_left]
theorem app_set0 {α:Type} (S l:List α) (x:α):(S ++ l).set S.length x=S ++ l.set 0 x:=by rw [List.set_append_right _ _ (Nat.le_refl _),Nat.sub_self]
theorem app_set {α:Type} (S l:List α) (k:Nat) (x:α):(S ++ l).set (S.length + k) x=S ++ l.set k x:=by rw [List.set_append_right _ _ (Nat.le_add_right _ _),Nat.add_sub_cancel_left]
theorem app_take {α:Type} (S l:List α):(S ++ l).take S.length=S:=by simp
theorem app_take_add {α:Type} (S l:List α) (k:Nat):(S ++ l).take (S.length + k)=S ++ l.take k:=by
  induction S with
  | nil=>simp
  | cons x S ih=>rw [List.length_cons,Nat.add_right_comm,List.cons_append,List.take_succ_cons,ih]; rfl
theorem app_one {α:Type} (S:List α) (a b:List α):S ++ a ++ b=S ++ (a ++ b):=List.append_assoc _ _ _
theorem setBox_stk (S:List (List AV)) (H:List HObj) (n:Nat) (cs:List AV):setBox ⟨S,H⟩ (.stk n) cs=⟨S.set n cs,H⟩:=rfl
theorem setBox_heap (S:List (List AV)) (H:List HObj) (n:Nat) (cs:List AV):setBox ⟨S,H⟩ (.heap n) cs=⟨S,H.set n (.cells cs)⟩:=rfl
def cellsOf? : Option HObj→Option (List AV)
  | some (.cells cs)=>some cs
  | _=>none
theorem boxOf_heap (S:List (List AV)) (H:List HObj) (n:Nat):boxOf ⟨S,H⟩ (.heap n)=cellsOf? H[n]? := by
  show (match H[n]? with | some (.cells cs)=>some cs | _=>none)=cellsOf? H[n]?
  cases H[n]? with
  | none=>rfl
  | some o=>cases o <;> rfl
theorem boxOf_stk (S:List (List AV)) (H:List HObj) (n:Nat):boxOf ⟨S,H⟩ (.stk n)=S[n]? := rfl
theorem wrap_i64 {x:Int} (h1 : -9223372036854775808≤x) (h2:x≤9223372036854775807):IntKind.i64.wrap x=x:=by
  unfold IntKind.wrap
  simp [IntKind.signed,IntKind.bits]
  omega
theorem look_u8 (b:UInt8):(u8 b).look=u8 b:=rfl
theorem map_look_bs (l:List UInt8):(bs l).map AV.look=bs l:=by simp [bs,look_u8]
theorem gd_t (b:Bool):(b == true)=b:=by cases b <;> rfl
theorem gd_f (b:Bool):(b == false) = !b:=by cases b <;> rfl
theorem cast_lit {n:Nat}:((no_index (OfNat.ofNat n):Nat):Int)=OfNat.ofNat n:=rfl
theorem loop_rule {C : CallW} {P : Program} {rd : Bool} (hC : LeC C C) {m : List Bool} {b : LCode} {n0 : Nat} {is : List Item} {fr : Fr} {S : List (List AV)} {H : List HObj} {K : KC} {α : Type} (μ : α → Nat) (F : α → Fr) (S0 : α → List (List AV)) (H0 : α → List HObj) (I : α → Prop) (a0 : α)
    (h0:I a0) (hk:keep m fr=F a0) (hS:S.take n0=S0 a0) (hH:H=H0 a0) (hu:∀a,I a→underL n0 (F a)=true)
    (step:∀a,I a→(∀a' fr' S' H',μ a' < μ a→I a'→keep m fr'=F a'→S'.take n0=S0 a'→H'=H0 a'→runLp C P rd m b n0 is fr' ⟨S',H'⟩ K)→runC C P rd b (.lp m b n0 :: is) (F a) ⟨S0 a,H0 a⟩ K) :
    runLp C P rd m b n0 is fr ⟨S,H⟩ K:=by
  have main:∀(n:Nat) (a:α) (fr:Fr) (S:List (List AV)) (H:List HObj),μ a < n→I a→keep m fr=F a→S.take n0=S0 a→H=H0 a→runLp C P rd m b n0 is fr ⟨S,H⟩ K:=by
    intro n
    induction n with
    | zero=>intro a fr S H h; omega
    | succ n ih =>
      intro a fr S H h hI hk hS hH
      subst hH
      refine loop_step hC hk (hu a hI) ?_
      rw [hS]
      exact step a hI fun a' fr' S' H' hlt hI'=>ih a' fr' S' H' (by omega) hI'
  exact main (μ a0 + 1) a0 fr S H (Nat.lt_succ_self _) h0 hk hS hH
end Go.AM
namespace Go.AM
open Go
def key0:Key:=⟨List.replicate 16 0,rfl⟩
def zk:List AV:=[.s (.int .u8 0),.s (.int .u8 0),.s (.int .u8 0),.s (.int .u8 0),.s (.int .u8 0),.s (.int .u8 0),.s (.int .u8 0),.s (.int .u8 0),.s (.int .u8 0),.s (.int .u8 0),.s (.int .u8 0),.s (.int .u8 0),.s (.int .u8 0),.s (.int .u8 0),.s (.int .u8 0),.s (.int .u8 0)]
def lk:List LK:=[.int .u8,.int .u8,.int .u8,.int .u8,.int .u8,.int .u8,.int .u8,.int .u8,.int .u8,.int .u8,.int .u8,.int .u8,.int .u8,.int .u8,.int .u8,.int .u8]
theorem zk_eq:zk=bs key0.b:=rfl
theorem take_kc (k:Key) (r:List AV):(bs k.b ++ r).take 16=bs k.b:=List.take_left' (kc_length k)
theorem drop_kc (k:Key) (r:List AV):(bs k.b ++ r).drop 16=r:=List.drop_left' (kc_length k)
theorem take_kc0 (k:Key):(bs k.b).take 16=bs k.b:=List.take_of_length_le (Nat.le_of_eq (kc_length k))
theorem drop_zero' {α:Type} (l:List α):l.drop 0=l:=rfl
theorem get_kc16 (k:Key) (r:List AV):(bs k.b ++ r)[16]? = r[0]? := by rw [List.getElem?_append_right (Nat.le_of_eq (kc_length k)),kc_length]
theorem get_kc17 (k:Key) (r:List AV):(bs k.b ++ r)[17]? = r[1]? := by rw [List.getElem?_append_right (by rw [kc_length]; omega),kc_length]
theorem take_all {α:Type} {l:List α} {n:Nat} (h:l.length≤n):l.take n=l:=List.take_of_length_le h
theorem look_app (a b:List AV):(a ++ b).map AV.look=a.map AV.look ++ b.map AV.look:=List.map_append
theorem under_app' {n:Nat} (l l':List AV):AV.under.go n (l ++ l')=(AV.under.go n l && AV.under.go n l'):=under_app
theorem readA_rop {σ:St} {cs:List AV} {n:Nat} (h:n≤cs.length):readA σ (.rop cs) n=some (.agg (cs.take n)):=by simp [readA,readCells,h]
theorem readA_stk {S:List (List AV)} {l:List (List AV)} {H:List HObj} {j n off:Nat} (hj:j < l.length) (h:off + n≤(l.getD j []).length) (hn:n≠1):readA ⟨S ++ l,H⟩ (.ptr (.stk (S.length + j)) off) n=some (.agg ((((l.getD j []).drop off).take n).map AV.look)):=by
  have e:l[j]? = some (l.getD j []):=by simp [List.getD,hj]
  simp only [readA,readCells,boxOf_stk,app_get,e,Option.bind_some,if_pos (And.intro h (Or.inl hn)),Option.map_some]
theorem readA_stk0 {S:List (List AV)} {l:List (List AV)} {H:List HObj} {n off:Nat} (hj:0 < l.length) (h:off + n≤(l.getD 0 []).length) (hn:n≠1):readA ⟨S ++ l,H⟩ (.ptr (.stk S.length) off) n=some (.agg ((((l.getD 0 []).drop off).take n).map AV.look)):=readA_stk (j:=0) hj h hn
theorem storeL_stk {S:List (List AV)} {l:List (List AV)} {H:List HObj} {j n:Nat} {vs:List AV} (hj:j < l.length) (h:(l.getD j []).length=n) (hv:vs.length=n) (hn:2≤n) (hu:AV.under.go (S.length + j) vs=true):storeL n (.ptr (.stk (S.length + j)) 0) (.agg vs) ⟨S ++ l,H⟩=some ⟨S ++ l.set j vs,H⟩:=by
  have e:l[j]? = some (l.getD j []):=by simp [List.getD,hj]
  have hs:splice (l.getD j []) 0 vs=vs:=by
    unfold splice
    split
    · simp at hv; omega
    · rw [List.take_zero,List.nil_append,Nat.zero_add,hv,List.drop_of_length_le (Nat.le_of_eq h),List.append_nil]
  simp only [storeL,AV.cells,AV.fit,hv,writeCells,boxOf_stk,app_get,e,Option.bind_some,hs,setBox_stk,app_set,mayHold,hu,h,Nat.zero_add,Nat.le_refl,decide_true,Bool.and_self,if_true,true_and]
  rw [if_pos (by simp; omega)]
theorem storeL_stk0 {S:List (List AV)} {l:List (List AV)} {H:List HObj} {n:Nat} {vs:List AV} (hj:0 < l.length) (h:(l.getD 0 []).length=n) (hv:vs.length=n) (hn:2≤n) (hu:AV.under.go S.length vs=true):storeL n (.ptr (.stk S.length) 0) (.agg vs) ⟨S ++ l,H⟩=some ⟨S ++ l.set 0 vs,H⟩:=storeL_stk (j:=0) hj h hv hn hu
theorem storeL1_stk {S:List (List AV)} {l:List (List AV)} {H:List HObj} {j off:Nat} {v:AV} (hj:j < l.length) (h:off < (l.getD j []).length) (hc:v.cells=[v]) (hf:v.fit=true) (hu:AV.under (S.length + j) v=true):storeL 1 (.ptr (.stk (S.length + j)) off) v ⟨S ++ l,H⟩=some ⟨S ++ l.set j ((l.getD j []).set off v),H⟩:=by
  have e:l[j]? = some (l.getD j []):=by simp [List.getD,hj]
  have h1:off + 1≤(l.getD j []).length:=h
  simp only [storeL,hc,hf,List.length_cons,List.length_nil,writeCells,boxOf_stk,app_get,e,Option.bind_some,splice,setBox_stk,app_set,mayHold,AV.under.go,hu,Nat.zero_add,h1,decide_true,Bool.and_self,if_true,true_and,and_self]
  rw [if_pos (by simp)]
theorem storeL1_stk0 {S:List (List AV)} {l:List (List AV)} {H:List HObj} {off:Nat} {v:AV} (hj:0 < l.length) (h:off < (l.getD 0 []).length) (hc:v.cells=[v]) (hf:v.fit=true) (hu:AV.under S.length v=true):storeL 1 (.ptr (.stk S.length) off) v ⟨S ++ l,H⟩=some ⟨S ++ l.set 0 ((l.getD 0 []).set off v),H⟩:=storeL1_stk (j:=0) hj h hc hf hu
theorem storeS_stk {S:List (List AV)} {l:List (List AV)} {H:List HObj} {j off:Nat} {x:Sc} (hj:j < l.length) (h:off < (l.getD j []).length):storeL 1 (.ptr (.stk (S.length + j)) off) (.s x) ⟨S ++ l,H⟩=some ⟨S ++ l.set j ((l.getD j []).set off (.s x)),H⟩:=storeL1_stk hj h rfl rfl rfl
theorem storeS_stk0 {S:List (List AV)} {l:List (List AV)} {H:List HObj} {off:Nat} {x:Sc} (hj:0 < l.length) (h:off < (l.getD 0 []).length):storeL 1 (.ptr (.stk S.length) off) (.s x) ⟨S ++ l,H⟩=some ⟨S ++ l.set 0 ((l.getD 0 []).set off (.s x)),H⟩:=storeL1_stk0 hj h rfl rfl rfl
theorem storeQ_stk {S:List (List AV)} {l:List (List AV)} {H:List HObj} {j off sz:Nat} {fl:Fl} {es:List AV} (hj:j < l.length) (h:off < (l.getD j []).length):storeL 1 (.ptr (.stk (S.length + j)) off) (.list fl sz es) ⟨S ++ l,H⟩=some ⟨S ++ l.set j ((l.getD j []).set off (.list fl sz es)),H⟩:=storeL1_stk hj h rfl rfl rfl
theorem storeQ_stk0 {S:List (List AV)} {l:List (List AV)} {H:List HObj} {off sz:Nat} {fl:Fl} {es:List AV} (hj:0 < l.length) (h:off < (l.getD 0 []).length):storeL 1 (.ptr (.stk S.length) off) (.list fl sz es) ⟨S ++ l,H⟩=some ⟨S ++ l.set 0 ((l.getD 0 []).set off (.list fl sz es)),H⟩:=storeL1_stk0 hj h rfl rfl rfl
theorem cellsOf_some {cs:List AV}:cellsOf? (some (.cells cs))=some cs:=rfl
theorem under_s {n:Nat} {x:Sc}:AV.under n (.s x)=true:=rfl
theorem cells_s {x:Sc}:(AV.s x).cells=[.s x]:=rfl
theorem fit_s {x:Sc}:(AV.s x).fit=true:=rfl
theorem under_list {n sz:Nat} {fl:Fl} {es:List AV}:AV.under n (.list fl sz es)=true:=rfl
theorem cells_list {sz:Nat} {fl:Fl} {es:List AV}:(AV.list fl sz es).cells=[.list fl sz es]:=rfl
theorem fit_list {sz:Nat} {fl:Fl} {es:List AV}:(AV.list fl sz es).fit=true:=rfl
theorem cells_u8 {x:UInt8}:(u8 x).cells=[u8 x]:=rfl
theorem fit_u8 {x:UInt8}:(u8 x).fit=true:=rfl
def kA (k:Key):AV := .agg (bs k.b)
theorem kA_cells {k:Key}:(kA k).cells=bs k.b:=rfl
theorem kA_under {n:Nat} {k:Key}:AV.under n (kA k)=true:=by simp [kA,AV.under,under_bs]
theorem kA_low {n:Nat}:∀{l:List Key},AV.under.go n (l.map kA)=true
  | []=>rfl
  | k :: l=>by simp only [List.map_cons,AV.under.go,kA_under,kA_low (l:=l),Bool.and_self]
theorem kA_calm {k:Key}:(kA k).calm=kA k:=rfl
theorem elems_list {e:ET} {fl:Fl} {es:List AV} {σ:St}:elemsL e (.list fl e.c es) σ=some es:=by simp [elemsL]
theorem ixl_map {α:Type} {f:α→AV} {l:List α} {i c:Nat} {k:IntKind} (h:i < l.length) (hc:c≠0):indexAddrL (.sl c) (.list .sh c (l.map f)) (.s (.int k (i:Int)))=some (.rop (f l[i]).cells):=by
  have h1:(0:Int)≤i:=by omega
  have h2:(i:Int) < (l.map f).length:=by simp; omega
  simp only [indexAddrL,h1,h2,hc,ne_eq,not_false_eq_true,reduceCtorEq,and_self,if_true,Int.toNat_natCast]
  simp [List.getD,h]
theorem ixl_k {l:List Key} {i c:Nat} {k:IntKind} (h:i < l.length) (hc:c≠0):indexAddrL (.sl c) (.list .sh c (l.map kA)) (.s (.int k (i:Int)))=some (.rop (bs (l[i]).b)):=ixl_map h hc
theorem lenL_list {σ:St} {fl:Fl} {c:Nat} {es:List AV}:lenL .sl (.list fl c es) σ=some es.length:=rfl
theorem lenL_str {σ:St} {l:List UInt8}:lenL .str (.s (.str l)) σ=some l.length:=rfl
theorem u8_inj {a b:UInt8}:AV.beq (u8 a) (u8 b)=decide (a=b):=by
  simp only [u8,AV.beq]
  by_cases h:a=b
  · simp [h]
  · have:¬((a.toNat:Int)=b.toNat):=fun e=>h (UInt8.toNat_inj.1 (by omega))
    simp [h,this]
theorem beq_bs:∀(a b:List UInt8),AV.beq.go (bs a) (bs b)=decide (a=b)
  | [],[]=>rfl
  | [],_ :: _=>rfl
  | _ :: _,[]=>rfl
  | x :: a,y :: b=>by
    show (AV.beq (u8 x) (u8 y) && AV.beq.go (bs a) (bs b))=_
    rw [u8_inj,beq_bs a b]
    by_cases h1:x=y <;> by_cases h2:a=b <;> simp [h1,h2]
theorem beq_app:∀(a b c d:List AV),a.length=b.length→AV.beq.go (a ++ c) (b ++ d)=(AV.beq.go a b && AV.beq.go c d)
  | [],[],c,d,_=>by simp [AV.beq.go]
  | [],_ :: _,_,_,h=>by simp at h
  | _ :: _,[],_,_,h=>by simp at h
  | x :: a,y :: b,c,d,h=>by simp only [List.cons_append,AV.beq.go,beq_app a b c d (by simpa using h),Bool.and_assoc]
theorem beq_app_k (a b:Key) (c d:List AV):AV.beq.go (bs a.b ++ c) (bs b.b ++ d)=(AV.beq.go (bs a.b) (bs b.b) && AV.beq.go c d):=beq_app _ _ _ _ (by rw [kc_length,kc_length])
theorem beq_kk (a b:Key):AV.beq.go (bs a.b) (bs b.b)=decide (a=b):=by
  rw [beq_bs]
  by_cases h:a=b
  · simp [h]
  · have:¬a.b=b.b:=fun e=>h (Key.ext' e)
    simp [h,this]
theorem fits_bs:∀(l:List UInt8),fitsL (List.replicate l.length (.int .u8)) (bs l)=true
  | []=>rfl
  | x :: l=>by
    show (_ && fitsL (List.replicate l.length (.int .u8)) (bs l))=true
    rw [fits_bs l]; rfl
theorem fits_app:∀(a:List LK) (b:List LK) (c d:List AV),a.length=c.length→fitsL (a ++ b) (c ++ d)=(fitsL a c && fitsL b d)
  | [],_,[],_,_=>by simp [fitsL]
  | [],_,_ :: _,_,h=>by simp at h
  | _ :: _,_,[],_,h=>by simp at h
  | k :: a,b,x :: c,d,h=>by simp only [List.cons_append,fitsL,fits_app a b c d (by simpa using h),Bool.and_assoc]
theorem fits_k (k:Key):fitsL lk (bs k.b)=true:=by
  have:=fits_bs k.b
  rw [k.h] at this
  exact this
theorem fits_kr (k:Key) (ls:List LK) (r:List AV):fitsL (lk ++ ls) (bs k.b ++ r)=fitsL ls r:=by
  rw [fits_app _ _ _ _ (by rw [kc_length]; rfl),fits_k,Bool.true_and]
theorem slice_box {n c:Nat} {r:Ref} (h:0 < n) (hc:c≠0):sliceL (.arr n c) (.ptr r 0) none none none=some (.row r 0 n n):=by
  simp [sliceL,bound,hc,h]
theorem fillL_nil {cs:List AV}:fillL cs []=some cs:=rfl
theorem len_map' {α β:Type} (f:α→β) (l:List α):(l.map f).length=l.length:=List.length_map _
end Go.AM
namespace Go.AM
open Go
structure Wr where
  key:Key
  val:List UInt8
  gone:Bool
  deriving DecidableEq
def wc (w:Wr):List AV:=bs w.key.b ++ [.s (.str w.val),.s (.bool w.gone)]
def wA (w:Wr):AV := .agg (wc w)
theorem wc_length (w:Wr):(wc w).length=18:=by simp [wc,kc_length]
theorem wc_under {n:Nat} {w:Wr}:AV.under.go n (wc w)=true:=by simp [wc,under_app',under_bs,AV.under,AV.under.go]
theorem wA_under {n:Nat} {w:Wr}:AV.under n (wA w)=true:=wc_under
theorem wA_low {n:Nat}:∀{l:List Wr},AV.under.go n (l.map wA)=true
  | []=>rfl
  | k :: l=>by simp only [List.map_cons,AV.under.go,wA_under,wA_low (l:=l),Bool.and_self]
theorem look_wc (w:Wr):(wc w).map AV.look=wc w:=by
  rw [wc,look_app,map_look_bs]; rfl
theorem beq_wc (a b:Wr):AV.beq.go (wc a) (wc b)=decide (a=b):=by
  rw [wc,wc,beq_app_k,beq_kk]
  cases a; cases b
  simp [AV.beq.go,AV.beq,Wr.mk.injEq,Bool.decide_and,Bool.and_assoc]
theorem fits_wc (w:Wr):fitsL (lk ++ [.str,.bool]) (wc w)=true:=by rw [wc,fits_kr]; rfl
theorem ixl_w {l:List Wr} {i c:Nat} {k:IntKind} (h:i < l.length) (hc:c≠0):indexAddrL (.sl c) (.list .sh c (l.map wA)) (.s (.int k (i:Int)))=some (.rop (wc l[i])):=ixl_map h hc
theorem take_wc (w:Wr):(wc w).take 18=wc w:=List.take_of_length_le (Nat.le_of_eq (wc_length w))
theorem take_wk (w:Wr):(wc w).take 16=bs w.key.b:=take_kc _ _
theorem drop_wc (w:Wr):(wc w).drop 16=[.s (.str w.val),.s (.bool w.gone)]:=drop_kc _ _
theorem shift_rop {cs:List AV} {o:Nat}:shift (.rop cs) o=some (.rop (cs.drop o)):=rfl
theorem load1_rop {σ:St} {v:AV} {cs:List AV}:load1L false (.rop (v :: cs)) σ=some (v,σ):=rfl
theorem WkF.full {sz:Nat} {es as bs:List AV} (h:WkF as bs):WkF (.list .full sz es :: as) (.list .sh sz es :: bs) := .wk (show WkL [.list .full sz es] _ from .full .nil) h
theorem WkF.own {sz:Nat} {es as bs:List AV} (h:WkF as bs):WkF (.list .own sz es :: as) (.list .sh sz es :: bs) := .wk (show WkL [.list .sh sz es] _ from .same .nil) h
theorem WkF.uniq {sz:Nat} {es as bs:List AV} (h:WkF as bs):WkF (.list .uniq sz es :: as) (.list .sh sz es :: bs) := .wk (show WkL [.list .sh sz es] _ from .same .nil) h
theorem WkF.nilS {sz:Nat} {as bs:List AV} (hs:0 < sz) (h:WkF as bs):WkF (.s .nilS :: as) (.list .sh sz [] :: bs) := .wk (show WkL [.s .nilS] _ from .nilS hs .nil) h
def WkC (C:CallW):Prop:=∀t as bs σ K,WkF as bs→C t bs σ K→C t as σ K
end Go.AM
namespace Go.AM
open Go
def okC (s:LStep) (fr:Fr) (v:AV) (σ:St):Option Bool→Prop
  | some true=>sameV (readL s fr σ) v=true
  | some false=>AV.beq (.tup []) v=true
  | none=>False
def okAll (drop:List Nat) (σ:St):List LChk→Prop
  | []=>True
  | c :: cs=>(drop.contains c.i=false→okC c.s c.fr c.v σ (guardL c.fr c.s.guard))∧okAll drop σ cs
def leftC (drop:List Nat):List LChk→List LChk
  | []=>[]
  | c :: cs=>if drop.contains c.i=true then leftC drop cs else c :: leftC drop cs
theorem okAll_nil {drop σ}:okAll drop σ []=True:=rfl
theorem okAll_cons {drop σ i s fr v cs}:okAll drop σ (⟨i,s,fr,v⟩ :: cs)=((drop.contains i=false→okC s fr v σ (guardL fr s.guard))∧okAll drop σ cs):=(rfl)
theorem leftC_nil {drop}:leftC drop []=[]:=rfl
theorem leftC_cons {drop i s fr v cs}:leftC drop (⟨i,s,fr,v⟩ :: cs)=if drop.contains i=true then leftC drop cs else ⟨i,s,fr,v⟩ :: leftC drop cs:=(rfl)
theorem okC_true {s fr v σ}:okC s fr v σ (some true)=(sameV (readL s fr σ) v=true):=(rfl)
theorem okC_false {s fr v σ}:okC s fr v σ (some false)=(AV.beq (.tup []) v=true):=(rfl)
theorem sameV_some {u v}:sameV (some u) v=u.beq v:=(rfl)
theorem leftC_eq {drop:List Nat}:∀(l:List LChk),(l.filter fun c => !drop.contains c.i)=leftC drop l
  | []=>rfl
  | c :: cs=>by
    rw [List.filter_cons,leftC,leftC_eq cs]
    cases drop.contains c.i <;> rfl
theorem okAll_eq {drop:List Nat} {σ:St}:∀{l:List LChk},okAll drop σ l→(l.filter fun c => !drop.contains c.i).all (fun c=>c.ok σ)=true
  | [],_=>rfl
  | c :: cs,h=>by
    rw [List.filter_cons]
    have h2:=okAll_eq h.2
    cases hd:drop.contains c.i with
    | true=>simpa [hd] using h2
    | false =>
      have h1:=h.1 hd
      have hc:c.ok σ=true:=by
        unfold LChk.ok
        cases hg:guardL c.fr c.s.guard with
        | none=>rw [hg] at h1; exact h1.elim
        | some b=>rw [hg] at h1; cases b <;> exact h1
      simp only [Bool.not_false,if_true,List.all_cons,hc,h2,Bool.and_self]
theorem mvK_chk {C:CallW} {P:Program} {rd:Bool} {drop chk rest is K fr σ} (h:okAll drop σ chk∧runT C P rd rest (leftC drop chk) is fr σ K):mvK C P rd drop chk rest is K fr σ:=by
  refine ⟨okAll_eq h.1,?_⟩
  rw [leftC_eq]; exact h.2
theorem okAll_iff {drop:List Nat} {σ:St}:∀{l:List LChk},(l.filter fun c => !drop.contains c.i).all (fun c=>c.ok σ)=true→okAll drop σ l
  | [],_=>trivial
  | c :: cs,h=>by
    rw [List.filter_cons] at h
    cases hd:drop.contains c.i with
    | true =>
      rw [hd] at h
      refine ⟨fun e => ?_,okAll_iff (by simpa using h)⟩
      rw [hd] at e; cases e
    | false =>
      rw [hd] at h
      simp only [Bool.not_false,if_true,List.all_cons,Bool.and_eq_true] at h
      refine ⟨fun _ => ?_,okAll_iff h.2⟩
      have h1:=h.1
      unfold LChk.ok at h1
      cases hg:guardL c.fr c.s.guard with
      | none=>rw [hg] at h1; cases h1
      | some b=>rw [hg] at h1; cases b <;> exact h1
theorem mvK_cons {C:CallW} {P:Program} {rd:Bool} {drop c chk rest is K fr σ}:mvK C P rd drop (c :: chk) rest is K fr σ=(okAll drop σ (c :: chk)∧runT C P rd rest (leftC drop (c :: chk)) is fr σ K) :=
  propext ⟨fun h=>⟨okAll_iff h.1,by have:=h.2; rwa [leftC_eq] at this⟩,mvK_chk⟩
end Go.AM
namespace Go.AM
open Go
theorem RUN_ :
  (((((((type_of% @Go.AM.runC_skip∧(type_of% @Go.AM.runC_sq∧type_of% @Go.AM.runC_tree))∧((type_of% @Go.AM.runC_seq∧type_of% @Go.AM.runC_cond)∧(type_of% @Go.AM.runC_block∧type_of% @Go.AM.runC_exit)))∧(((type_of% @Go.AM.runC_ret∧type_of% @Go.AM.runC_loop)∧(type_of% @Go.AM.cnd_true∧type_of% @Go.AM.cnd_false))∧((type_of% @Go.AM.nxt_nil∧type_of% @Go.AM.nxt_c)∧(type_of% @Go.AM.nxt_blk∧type_of% @Go.AM.nxt_lp))))∧((((type_of% @Go.AM.ext_nil∧type_of% @Go.AM.ext_c)∧(type_of% @Go.AM.ext_blk∧type_of% @Go.AM.ext_lp))∧((type_of% @Go.AM.rtn_nil∧type_of% @Go.AM.rtn_c)∧(type_of% @Go.AM.rtn_blk∧type_of% @Go.AM.rtn_lp)))∧(((type_of% @Go.AM.runS_nil∧type_of% @Go.AM.runS_op)∧(type_of% @Go.AM.runS_grd∧type_of% @Go.AM.grd_true))∧((type_of% @Go.AM.grd_false∧type_of% @Go.AM.thn_some)∧(type_of% @Go.AM.opS_call∧type_of% @Go.AM.call_fn)))))∧((((type_of% @Go.AM.call_yield∧(type_of% @Go.AM.bak_eq∧type_of% @Go.AM.mb_t))∧((type_of% @Go.AM.mb_f∧type_of% @Go.AM.mayb_sc)∧(type_of% @Go.AM.mayb_bl∧type_of% @Go.AM.mayb_leaf)))∧(((type_of% @Go.AM.mayb_r0∧type_of% @Go.AM.mayb_r1)∧(type_of% @Go.AM.mayb_r2∧type_of% @Go.AM.mayb_r3))∧((type_of% @Go.AM.isEq.eq_1∧type_of% @Go.AM.isEq.eq_2)∧(type_of% @Go.AM.isEq.eq_3∧type_of% @Go.AM.maybeNil.eq_1))))∧((((type_of% @Go.AM.maybeNil.eq_2∧type_of% @Go.AM.maybeNil.eq_3)∧(type_of% @Go.AM.runT_done∧type_of% @Go.AM.runT_stop))∧((type_of% @Go.AM.runT_rd∧type_of% @Go.AM.rdG_true)∧(type_of% @Go.AM.rdG_false∧type_of% @Go.AM.rdV_some)))∧(((type_of% @Go.AM.runT_mv∧type_of% @Go.AM.mvG_true)∧(type_of% @Go.AM.mvG_false∧type_of% @Go.AM.t_mv))∧((type_of% @Go.AM.t_pick∧type_of% @Go.AM.t_alloc)∧(type_of% @Go.AM.t_box∧type_of% @Go.AM.t_build))))))∧(((((type_of% @Go.AM.t_bsl∧(type_of% @Go.AM.t_loadA∧type_of% @Go.AM.t_load1))∧((type_of% @Go.AM.t_store∧type_of% @Go.AM.t_nilc)∧(type_of% @Go.AM.t_bin∧type_of% @Go.AM.t_un)))∧(((type_of% @Go.AM.t_conv∧type_of% @Go.AM.t_mkfn)∧(type_of% @Go.AM.t_mkmap∧type_of% @Go.AM.t_mksl))∧((type_of% @Go.AM.t_slc∧type_of% @Go.AM.t_shift)∧(type_of% @Go.AM.t_part∧type_of% @Go.AM.t_ixa))))∧((((type_of% @Go.AM.t_ixs∧type_of% @Go.AM.t_ixv)∧(type_of% @Go.AM.t_look∧type_of% @Go.AM.t_upd))∧((type_of% @Go.AM.t_ext∧type_of% @Go.AM.t_len)∧(type_of% @Go.AM.t_cap∧type_of% @Go.AM.t_app)))∧(((type_of% @Go.AM.t_cpy∧type_of% @Go.AM.t_del)∧(type_of% @Go.AM.t_clr∧type_of% @Go.AM.t_mn))∧((type_of% @Go.AM.t_mx∧type_of% @Go.AM.t_thaw)∧(type_of% @Go.AM.t_frz∧type_of% @Go.AM.thnT_some)))))∧(((((type_of% @Go.AM.opT_call∧type_of% @Go.AM.callT_fn)∧(type_of% @Go.AM.callT_yield∧type_of% @Go.AM.bakT_eq))∧((type_of% @Go.AM.mvK_nil∧type_of% @Go.AM.readL.eq_1)∧(type_of% @Go.AM.LOp.opds.eq_1∧type_of% @Go.AM.LOp.opds.eq_2)))∧(((type_of% @Go.AM.LOp.opds.eq_3∧type_of% @Go.AM.LOp.opds.eq_4)∧(type_of% @Go.AM.LOp.opds.eq_5∧type_of% @Go.AM.LOp.opds.eq_6))∧((type_of% @Go.AM.LOp.opds.eq_7∧type_of% @Go.AM.LOp.opds.eq_8)∧(type_of% @Go.AM.LOp.opds.eq_9∧type_of% @Go.AM.LOp.opds.eq_10))))∧((((type_of% @Go.AM.LOp.opds.eq_11∧type_of% @Go.AM.LOp.opds.eq_12)∧(type_of% @Go.AM.LOp.opds.eq_13∧type_of% @Go.AM.LOp.opds.eq_14))∧((type_of% @Go.AM.LOp.opds.eq_15∧type_of% @Go.AM.LOp.opds.eq_16)∧(type_of% @Go.AM.LOp.opds.eq_17∧type_of% @Go.AM.LOp.opds.eq_18)))∧(((type_of% @Go.AM.LOp.opds.eq_19∧type_of% @Go.AM.LOp.opds.eq_20)∧(type_of% @Go.AM.LOp.opds.eq_21∧type_of% @Go.AM.LOp.opds.eq_22))∧((type_of% @Go.AM.LOp.opds.eq_23∧type_of% @Go.AM.LOp.opds.eq_24)∧(type_of% @Go.AM.LOp.opds.eq_25∧type_of% @Go.AM.LOp.opds.eq_26)))))))∧((((((type_of% @Go.AM.LOp.opds.eq_27∧(type_of% @Go.AM.LOp.opds.eq_28∧type_of% @Go.AM.LOp.opds.eq_29))∧((type_of% @Go.AM.LOp.opds.eq_30∧type_of% @Go.AM.LOp.opds.eq_31)∧(type_of% @Go.AM.LOp.opds.eq_32∧type_of% @Go.AM.LOp.opds.eq_33)))∧(((type_of% @Go.AM.LOp.opds.eq_34∧type_of% @Go.AM.LOp.opds.eq_35)∧(type_of% @Go.AM.LOp.opds.eq_36∧type_of% @Go.AM.LOp.opds.eq_37))∧((type_of% @Go.AM.LOp.opds.eq_38∧type_of% @Go.AM.LOp.opds.eq_39)∧(type_of% @Go.AM.calmL.eq_1∧type_of% @Go.AM.calmL.eq_2))))∧((((type_of% @Go.AM.AV.isUniq.eq_1∧type_of% @Go.AM.AV.isUniq.eq_2)∧(type_of% @Go.AM.depL.eq_1∧type_of% @Go.AM.depL.eq_2))∧((type_of% @Go.AM.depL.eq_3∧type_of% @Go.AM.depL.eq_4)∧(type_of% @Go.AM.depL.eq_5∧type_of% @Go.AM.depL.eq_6)))∧(((type_of% @Go.AM.depL.eq_7∧type_of% @Go.AM.settledL.eq_1)∧(type_of% @Go.AM.settledL.eq_2∧type_of% @Go.AM.settledL.eq_3))∧((type_of% @Go.AM.settledL.eq_4∧type_of% @Go.AM.settledL.eq_5)∧(type_of% @Go.AM.settledL.eq_6∧type_of% @Go.AM.settledL.eq_7)))))∧((((type_of% @Go.AM.settledL.eq_8∧(type_of% @Go.AM.settledL.eq_9∧type_of% @Go.AM.settledL.eq_10))∧((type_of% @Option.toList_none.{0}∧type_of% @Option.toList_some.{0})∧(type_of% @Go.AM.e_mv∧type_of% @Go.AM.e_pick)))∧(((type_of% @Go.AM.e_alloc∧type_of% @Go.AM.e_box)∧(type_of% @Go.AM.e_build∧type_of% @Go.AM.e_bsl))∧((type_of% @Go.AM.e_loadA∧type_of% @Go.AM.e_load1)∧(type_of% @Go.AM.e_store∧type_of% @Go.AM.e_nilc))))∧((((type_of% @Go.AM.e_bin∧type_of% @Go.AM.e_un)∧(type_of% @Go.AM.e_conv∧type_of% @Go.AM.e_mkfn))∧((type_of% @Go.AM.e_mkmap∧type_of% @Go.AM.e_mksl)∧(type_of% @Go.AM.e_slc∧type_of% @Go.AM.e_shift)))∧(((type_of% @Go.AM.e_part∧type_of% @Go.AM.e_ixa)∧(type_of% @Go.AM.e_ixs∧type_of% @Go.AM.e_ixv))∧((type_of% @Go.AM.e_look∧type_of% @Go.AM.e_upd)∧(type_of% @Go.AM.e_ext∧type_of% @Go.AM.e_len))))))∧(((((type_of% @Go.AM.e_cap∧(type_of% @Go.AM.e_app∧type_of% @Go.AM.e_cpy))∧((type_of% @Go.AM.e_del∧type_of% @Go.AM.e_clr)∧(type_of% @Go.AM.e_mn∧type_of% @Go.AM.e_mx)))∧(((type_of% @Go.AM.e_thaw∧type_of% @Go.AM.e_frz)∧(type_of% @Go.AM.evL.eq_1∧type_of% @Go.AM.evL.eq_2))∧((type_of% @Go.AM.evL.eq_3∧type_of% @Go.AM.evL.eq_4)∧(type_of% @Go.AM.evL.eq_5∧type_of% @Go.AM.evL.eq_6))))∧((((type_of% @Go.AM.evL.eq_7∧type_of% @Go.AM.evL.eq_8)∧(type_of% @Go.AM.evL.eq_9∧type_of% @Go.AM.evL.eq_10))∧((type_of% @Go.AM.evL.eq_11∧type_of% @Go.AM.evL.eq_12)∧(type_of% @Go.AM.evL.eq_13∧type_of% @Go.AM.evL.eq_14)))∧(((type_of% @Go.AM.evL.eq_15∧type_of% @Go.AM.evL.eq_16)∧(type_of% @Go.AM.evL.eq_17∧type_of% @Go.AM.evL.eq_18))∧((type_of% @Go.AM.evL.eq_19∧type_of% @Go.AM.evL.eq_20)∧(type_of% @Go.AM.evL.eq_21∧type_of% @Go.AM.evL.eq_22)))))∧(((((type_of% @Go.AM.evL.eq_23∧type_of% @Go.AM.evL.eq_24)∧(type_of% @Go.AM.evL.eq_25∧type_of% @Go.AM.evL.eq_26))∧((type_of% @Go.AM.evL.eq_27∧type_of% @Go.AM.evL.eq_28)∧(type_of% @Go.AM.evL.eq_29∧type_of% @Go.AM.evL.eq_30)))∧(((type_of% @Go.AM.evL.eq_31∧type_of% @Go.AM.evL.eq_32)∧(type_of% @Go.AM.evL.eq_33∧type_of% @Go.AM.evL.eq_34))∧((type_of% @Go.AM.evL.eq_35∧type_of% @Go.AM.evL.eq_36)∧(type_of% @Go.AM.evL.eq_37∧type_of% @Go.AM.evL.eq_38))))∧((((type_of% @Go.AM.evL.eq_39∧type_of% @Go.AM.evL.eq_40)∧(type_of% @Go.AM.run_fn∧type_of% @Go.AM.fin_ret))∧((type_of% @Go.AM.fin_normal∧type_of% @Go.AM.end1_nil)∧(type_of% @Go.AM.end1_one∧type_of% @Go.AM.end1_two)))∧(((type_of% @Go.AM.end1_three∧type_of% @Go.AM.end1_four)∧(type_of% @Go.AM.ress_nil∧type_of% @Go.AM.ress_t))∧((type_of% @Go.AM.ress_many∧type_of% @Go.AM.ress_one)∧(type_of% @Go.AM.cns_some∧type_of% @Go.AM.cns2_some)))))))) :=
  ⟨⟨⟨⟨⟨⟨⟨@Go.AM.runC_skip,⟨@Go.AM.runC_sq,@Go.AM.runC_tree⟩⟩,⟨⟨@Go.AM.runC_seq,@Go.AM.runC_cond⟩,⟨@Go.AM.runC_block,@Go.AM.runC_exit⟩⟩⟩,⟨⟨⟨@Go.AM.runC_ret,@Go.AM.runC_loop⟩,⟨@Go.AM.cnd_true,@Go.AM.cnd_false⟩⟩,⟨⟨@Go.AM.nxt_nil,@Go.AM.nxt_c⟩,⟨@Go.AM.nxt_blk,@Go.AM.nxt_lp⟩⟩⟩⟩,⟨⟨⟨⟨@Go.AM.ext_nil,@Go.AM.ext_c⟩,⟨@Go.AM.ext_blk,@Go.AM.ext_lp⟩⟩,⟨⟨@Go.AM.rtn_nil,@Go.AM.rtn_c⟩,⟨@Go.AM.rtn_blk,@Go.AM.rtn_lp⟩⟩⟩,⟨⟨⟨@Go.AM.runS_nil,@Go.AM.runS_op⟩,⟨@Go.AM.runS_grd,@Go.AM.grd_true⟩⟩,⟨⟨@Go.AM.grd_false,@Go.AM.thn_some⟩,⟨@Go.AM.opS_call,@Go.AM.call_fn⟩⟩⟩⟩⟩,⟨⟨⟨⟨@Go.AM.call_yield,⟨@Go.AM.bak_eq,@Go.AM.mb_t⟩⟩,⟨⟨@Go.AM.mb_f,@Go.AM.mayb_sc⟩,⟨@Go.AM.mayb_bl,@Go.AM.mayb_leaf⟩⟩⟩,⟨⟨⟨@Go.AM.mayb_r0,@Go.AM.mayb_r1⟩,⟨@Go.AM.mayb_r2,@Go.AM.mayb_r3⟩⟩,⟨⟨@Go.AM.isEq.eq_1,@Go.AM.isEq.eq_2⟩,⟨@Go.AM.isEq.eq_3,@Go.AM.maybeNil.eq_1⟩⟩⟩⟩,⟨⟨⟨⟨@Go.AM.maybeNil.eq_2,@Go.AM.maybeNil.eq_3⟩,⟨@Go.AM.runT_done,@Go.AM.runT_stop⟩⟩,⟨⟨@Go.AM.runT_rd,@Go.AM.rdG_true⟩,⟨@Go.AM.rdG_false,@Go.AM.rdV_some⟩⟩⟩,⟨⟨⟨@Go.AM.runT_mv,@Go.AM.mvG_true⟩,⟨@Go.AM.mvG_false,@Go.AM.t_mv⟩⟩,⟨⟨@Go.AM.t_pick,@Go.AM.t_alloc⟩,⟨@Go.AM.t_box,@Go.AM.t_build⟩⟩⟩⟩⟩⟩,⟨⟨⟨⟨⟨@Go.AM.t_bsl,⟨@Go.AM.t_loadA,@Go.AM.t_load1⟩⟩,⟨⟨@Go.AM.t_store,@Go.AM.t_nilc⟩,⟨@Go.AM.t_bin,@Go.AM.t_un⟩⟩⟩,⟨⟨⟨@Go.AM.t_conv,@Go.AM.t_mkfn⟩,⟨@Go.AM.t_mkmap,@Go.AM.t_mksl⟩⟩,⟨⟨@Go.AM.t_slc,@Go.AM.t_shift⟩,⟨@Go.AM.t_part,@Go.AM.t_ixa⟩⟩⟩⟩,⟨⟨⟨⟨@Go.AM.t_ixs,@Go.AM.t_ixv⟩,⟨@Go.AM.t_look,@Go.AM.t_upd⟩⟩,⟨⟨@Go.AM.t_ext,@Go.AM.t_len⟩,⟨@Go.AM.t_cap,@Go.AM.t_app⟩⟩⟩,⟨⟨⟨@Go.AM.t_cpy,@Go.AM.t_del⟩,⟨@Go.AM.t_clr,@Go.AM.t_mn⟩⟩,⟨⟨@Go.AM.t_mx,@Go.AM.t_thaw⟩,⟨@Go.AM.t_frz,@Go.AM.thnT_some⟩⟩⟩⟩⟩,⟨⟨⟨⟨⟨@Go.AM.opT_call,@Go.AM.callT_fn⟩,⟨@Go.AM.callT_yield,@Go.AM.bakT_eq⟩⟩,⟨⟨@Go.AM.mvK_nil,@Go.AM.readL.eq_1⟩,⟨@Go.AM.LOp.opds.eq_1,@Go.AM.LOp.opds.eq_2⟩⟩⟩,⟨⟨⟨@Go.AM.LOp.opds.eq_3,@Go.AM.LOp.opds.eq_4⟩,⟨@Go.AM.LOp.opds.eq_5,@Go.AM.LOp.opds.eq_6⟩⟩,⟨⟨@Go.AM.LOp.opds.eq_7,@Go.AM.LOp.opds.eq_8⟩,⟨@Go.AM.LOp.opds.eq_9,@Go.AM.LOp.opds.eq_10⟩⟩⟩⟩,⟨⟨⟨⟨@Go.AM.LOp.opds.eq_11,@Go.AM.LOp.opds.eq_12⟩,⟨@Go.AM.LOp.opds.eq_13,@Go.AM.LOp.opds.eq_14⟩⟩,⟨⟨@Go.AM.LOp.opds.eq_15,@Go.AM.LOp.opds.eq_16⟩,⟨@Go.AM.LOp.opds.eq_17,@Go.AM.LOp.opds.eq_18⟩⟩⟩,⟨⟨⟨@Go.AM.LOp.opds.eq_19,@Go.AM.LOp.opds.eq_20⟩,⟨@Go.AM.LOp.opds.eq_21,@Go.AM.LOp.opds.eq_22⟩⟩,⟨⟨@Go.AM.LOp.opds.eq_23,@Go.AM.LOp.opds.eq_24⟩,⟨@Go.AM.LOp.opds.eq_25,@Go.AM.LOp.opds.eq_26⟩⟩⟩⟩⟩⟩⟩,⟨⟨⟨⟨⟨⟨@Go.AM.LOp.opds.eq_27,⟨@Go.AM.LOp.opds.eq_28,@Go.AM.LOp.opds.eq_29⟩⟩,⟨⟨@Go.AM.LOp.opds.eq_30,@Go.AM.LOp.opds.eq_31⟩,⟨@Go.AM.LOp.opds.eq_32,@Go.AM.LOp.opds.eq_33⟩⟩⟩,⟨⟨⟨@Go.AM.LOp.opds.eq_34,@Go.AM.LOp.opds.eq_35⟩,⟨@Go.AM.LOp.opds.eq_36,@Go.AM.LOp.opds.eq_37⟩⟩,⟨⟨@Go.AM.LOp.opds.eq_38,@Go.AM.LOp.opds.eq_39⟩,⟨@Go.AM.calmL.eq_1,@Go.AM.calmL.eq_2⟩⟩⟩⟩,⟨⟨⟨⟨@Go.AM.AV.isUniq.eq_1,@Go.AM.AV.isUniq.eq_2⟩,⟨@Go.AM.depL.eq_1,@Go.AM.depL.eq_2⟩⟩,⟨⟨@Go.AM.depL.eq_3,@Go.AM.depL.eq_4⟩,⟨@Go.AM.depL.eq_5,@Go.AM.depL.eq_6⟩⟩⟩,⟨⟨⟨@Go.AM.depL.eq_7,@Go.AM.settledL.eq_1⟩,⟨@Go.AM.settledL.eq_2,@Go.AM.settledL.eq_3⟩⟩,⟨⟨@Go.AM.settledL.eq_4,@Go.AM.settledL.eq_5⟩,⟨@Go.AM.settledL.eq_6,@Go.AM.settledL.eq_7⟩⟩⟩⟩⟩,⟨⟨⟨⟨@Go.AM.settledL.eq_8,⟨@Go.AM.settledL.eq_9,@Go.AM.settledL.eq_10⟩⟩,⟨⟨@Option.toList_none.{0},@Option.toList_some.{0}⟩,⟨@Go.AM.e_mv,@Go.AM.e_pick⟩⟩⟩,⟨⟨⟨@Go.AM.e_alloc,@Go.AM.e_box⟩,⟨@Go.AM.e_build,@Go.AM.e_bsl⟩⟩,⟨⟨@Go.AM.e_loadA,@Go.AM.e_load1⟩,⟨@Go.AM.e_store,@Go.AM.e_nilc⟩⟩⟩⟩,⟨⟨⟨⟨@Go.AM.e_bin,@Go.AM.e_un⟩,⟨@Go.AM.e_conv,@Go.AM.e_mkfn⟩⟩,⟨⟨@Go.AM.e_mkmap,@Go.AM.e_mksl⟩,⟨@Go.AM.e_slc,@Go.AM.e_shift⟩⟩⟩,⟨⟨⟨@Go.AM.e_part,@Go.AM.e_ixa⟩,⟨@Go.AM.e_ixs,@Go.AM.e_ixv⟩⟩,⟨⟨@Go.AM.e_look,@Go.AM.e_upd⟩,⟨@Go.AM.e_ext,@Go.AM.e_len⟩⟩⟩⟩⟩⟩,⟨⟨⟨⟨⟨@Go.AM.e_cap,⟨@Go.AM.e_app,@Go.AM.e_cpy⟩⟩,⟨⟨@Go.AM.e_del,@Go.AM.e_clr⟩,⟨@Go.AM.e_mn,@Go.AM.e_mx⟩⟩⟩,⟨⟨⟨@Go.AM.e_thaw,@Go.AM.e_frz⟩,⟨@Go.AM.evL.eq_1,@Go.AM.evL.eq_2⟩⟩,⟨⟨@Go.AM.evL.eq_3,@Go.AM.evL.eq_4⟩,⟨@Go.AM.evL.eq_5,@Go.AM.evL.eq_6⟩⟩⟩⟩,⟨⟨⟨⟨@Go.AM.evL.eq_7,@Go.AM.evL.eq_8⟩,⟨@Go.AM.evL.eq_9,@Go.AM.evL.eq_10⟩⟩,⟨⟨@Go.AM.evL.eq_11,@Go.AM.evL.eq_12⟩,⟨@Go.AM.evL.eq_13,@Go.AM.evL.eq_14⟩⟩⟩,⟨⟨⟨@Go.AM.evL.eq_15,@Go.AM.evL.eq_16⟩,⟨@Go.AM.evL.eq_17,@Go.AM.evL.eq_18⟩⟩,⟨⟨@Go.AM.evL.eq_19,@Go.AM.evL.eq_20⟩,⟨@Go.AM.evL.eq_21,@Go.AM.evL.eq_22⟩⟩⟩⟩⟩,⟨⟨⟨⟨⟨@Go.AM.evL.eq_23,@Go.AM.evL.eq_24⟩,⟨@Go.AM.evL.eq_25,@Go.AM.evL.eq_26⟩⟩,⟨⟨@Go.AM.evL.eq_27,@Go.AM.evL.eq_28⟩,⟨@Go.AM.evL.eq_29,@Go.AM.evL.eq_30⟩⟩⟩,⟨⟨⟨@Go.AM.evL.eq_31,@Go.AM.evL.eq_32⟩,⟨@Go.AM.evL.eq_33,@Go.AM.evL.eq_34⟩⟩,⟨⟨@Go.AM.evL.eq_35,@Go.AM.evL.eq_36⟩,⟨@Go.AM.evL.eq_37,@Go.AM.evL.eq_38⟩⟩⟩⟩,⟨⟨⟨⟨@Go.AM.evL.eq_39,@Go.AM.evL.eq_40⟩,⟨@Go.AM.run_fn,@Go.AM.fin_ret⟩⟩,⟨⟨@Go.AM.fin_normal,@Go.AM.end1_nil⟩,⟨@Go.AM.end1_one,@Go.AM.end1_two⟩⟩⟩,⟨⟨⟨@Go.AM.end1_three,@Go.AM.end1_four⟩,⟨@Go.AM.ress_nil,@Go.AM.ress_t⟩⟩,⟨⟨@Go.AM.ress_many,@Go.AM.ress_one⟩,⟨@Go.AM.cns_some,@Go.AM.cns2_some⟩⟩⟩⟩⟩⟩⟩⟩
theorem FR_ :
  ((((((type_of% @Go.AM.putA.eq_1∧(type_of% @Go.AM.putA.eq_2∧type_of% @Go.AM.opL.eq_1))∧(type_of% @Go.AM.opL.eq_2∧(type_of% @Go.AM.opL.eq_3∧type_of% @Go.AM.opL.eq_4)))∧((type_of% @Go.AM.seL.eq_1∧(type_of% @Go.AM.tkL.eq_1∧type_of% @Go.AM.tkL.eq_2))∧((type_of% @Go.AM.tkL.eq_3∧type_of% @Go.AM.tkAllL.eq_1)∧(type_of% @Go.AM.tkAllL.eq_2∧type_of% @Go.AM.sharedL.eq_1))))∧(((type_of% @Go.AM.sharedL.eq_2∧(type_of% @Go.AM.settleL.eq_1∧type_of% @Go.AM.settleL.eq_2))∧((type_of% @Go.AM.guardL.eq_1∧type_of% @Go.AM.guardL.eq_2)∧(type_of% @Go.AM.AV.look.eq_1∧type_of% @Go.AM.AV.look.eq_2)))∧((type_of% @Go.AM.AV.look.eq_3∧(type_of% @Go.AM.AV.sh.eq_1∧type_of% @Go.AM.AV.sh.eq_2))∧((type_of% @Go.AM.AV.sh.eq_3∧type_of% @Go.AM.AV.left.eq_1)∧(type_of% @Go.AM.AV.left.eq_2∧type_of% @Go.AM.AV.left.eq_3)))))∧((((type_of% @Go.AM.AV.calm.eq_1∧(type_of% @Go.AM.AV.calm.eq_2∧type_of% @Go.AM.AV.cells.eq_1))∧(type_of% @Go.AM.AV.cells.eq_2∧(type_of% @Go.AM.AV.fit.eq_1∧type_of% @Go.AM.AV.fit.eq_2)))∧((type_of% @Go.AM.AV.fit.eq_3∧(type_of% @Go.AM.AV.isSlice.eq_1∧type_of% @Go.AM.AV.isSlice.eq_2))∧((type_of% @Go.AM.AV.isSlice.eq_3∧type_of% @Go.AM.AV.isSlice.eq_4)∧(type_of% @Go.AM.AV.isStr.eq_1∧type_of% @Go.AM.AV.isStr.eq_2))))∧(((type_of% @Go.AM.AV.nilKind.eq_1∧(type_of% @Go.AM.AV.nilKind.eq_2∧type_of% @Go.AM.AV.nilKind.eq_3))∧((type_of% @Go.AM.AV.nilKind.eq_4∧type_of% @Go.AM.AV.nilKind.eq_5)∧(type_of% @Go.AM.AV.refKind.eq_1∧type_of% @Go.AM.AV.refKind.eq_2)))∧((type_of% @Go.AM.AV.refKind.eq_3∧(type_of% @Go.AM.AV.refKind.eq_4∧type_of% @Go.AM.AV.refKind.eq_5))∧((type_of% @Go.AM.AV.refKind.eq_6∧type_of% @Go.AM.AV.refKind.eq_7)∧(type_of% @Go.AM.AV.refKind.eq_8∧type_of% @List.getD_cons_zero.{0}))))))∧(((((type_of% @List.getD_cons_succ.{0}∧(type_of% @List.set_cons_zero.{0}∧type_of% @List.set_cons_succ.{0}))∧(type_of% @List.getElem?_cons_zero.{0}∧(type_of% @List.getElem?_cons_succ.{0}∧type_of% @List.length_cons.{0})))∧((type_of% @List.length_nil.{0}∧(type_of% @List.replicate_succ.{0}∧type_of% @List.replicate_zero.{0}))∧((type_of% @List.cons_append.{0}∧type_of% @List.nil_append.{0})∧(type_of% @List.append_nil.{0}∧type_of% @List.map_cons.{0,0}))))∧(((type_of% @List.map_nil.{0,0}∧(type_of% @List.take_succ_cons.{0}∧type_of% @List.take_zero.{0}))∧((type_of% @List.drop_succ_cons.{0}∧type_of% @List.drop_zero.{0})∧(type_of% @List.all_cons.{0}∧type_of% @List.all_nil.{0})))∧((type_of% @Option.map_some.{0,0}∧(type_of% @Option.map_none.{0,0}∧type_of% @Option.bind_some.{0,0}))∧((type_of% @Nat.zero_add∧type_of% @Nat.add_zero)∧(type_of% @Nat.zero_mul∧type_of% @Go.AM.cast_lit)))))∧((((type_of% @Go.AM.gd_t∧(type_of% @Go.AM.gd_f∧type_of% @gt_iff_lt.{0}))∧((type_of% @ge_iff_le.{0}∧type_of% @or_self)∧(type_of% @or_false∧type_of% @false_or)))∧((type_of% @true_implies∧(type_of% @false_implies∧type_of% @and_true))∧((type_of% @true_and∧type_of% @Bool.false_eq_true)∧(type_of% @Bool.true_eq_false∧type_of% @not_false_eq_true))))∧(((type_of% @not_true_eq_false∧(type_of% @beq_self_eq_true.{0}∧type_of% @beq_iff_eq.{0}))∧((type_of% @Bool.and_true∧type_of% @Bool.true_and)∧(type_of% @Bool.and_self∧type_of% @Bool.not_true)))∧((type_of% @Bool.not_false∧(type_of% @Bool.or_false∧type_of% @Bool.false_or))∧((type_of% @Bool.or_true∧type_of% @Bool.true_or)∧(type_of% @decide_true∧type_of% @decide_false))))))) :=
  ⟨⟨⟨⟨⟨⟨@Go.AM.putA.eq_1,⟨@Go.AM.putA.eq_2,@Go.AM.opL.eq_1⟩⟩,⟨@Go.AM.opL.eq_2,⟨@Go.AM.opL.eq_3,@Go.AM.opL.eq_4⟩⟩⟩,⟨⟨@Go.AM.seL.eq_1,⟨@Go.AM.tkL.eq_1,@Go.AM.tkL.eq_2⟩⟩,⟨⟨@Go.AM.tkL.eq_3,@Go.AM.tkAllL.eq_1⟩,⟨@Go.AM.tkAllL.eq_2,@Go.AM.sharedL.eq_1⟩⟩⟩⟩,⟨⟨⟨@Go.AM.sharedL.eq_2,⟨@Go.AM.settleL.eq_1,@Go.AM.settleL.eq_2⟩⟩,⟨⟨@Go.AM.guardL.eq_1,@Go.AM.guardL.eq_2⟩,⟨@Go.AM.AV.look.eq_1,@Go.AM.AV.look.eq_2⟩⟩⟩,⟨⟨@Go.AM.AV.look.eq_3,⟨@Go.AM.AV.sh.eq_1,@Go.AM.AV.sh.eq_2⟩⟩,⟨⟨@Go.AM.AV.sh.eq_3,@Go.AM.AV.left.eq_1⟩,⟨@Go.AM.AV.left.eq_2,@Go.AM.AV.left.eq_3⟩⟩⟩⟩⟩,⟨⟨⟨⟨@Go.AM.AV.calm.eq_1,⟨@Go.AM.AV.calm.eq_2,@Go.AM.AV.cells.eq_1⟩⟩,⟨@Go.AM.AV.cells.eq_2,⟨@Go.AM.AV.fit.eq_1,@Go.AM.AV.fit.eq_2⟩⟩⟩,⟨⟨@Go.AM.AV.fit.eq_3,⟨@Go.AM.AV.isSlice.eq_1,@Go.AM.AV.isSlice.eq_2⟩⟩,⟨⟨@Go.AM.AV.isSlice.eq_3,@Go.AM.AV.isSlice.eq_4⟩,⟨@Go.AM.AV.isStr.eq_1,@Go.AM.AV.isStr.eq_2⟩⟩⟩⟩,⟨⟨⟨@Go.AM.AV.nilKind.eq_1,⟨@Go.AM.AV.nilKind.eq_2,@Go.AM.AV.nilKind.eq_3⟩⟩,⟨⟨@Go.AM.AV.nilKind.eq_4,@Go.AM.AV.nilKind.eq_5⟩,⟨@Go.AM.AV.refKind.eq_1,@Go.AM.AV.refKind.eq_2⟩⟩⟩,⟨⟨@Go.AM.AV.refKind.eq_3,⟨@Go.AM.AV.refKind.eq_4,@Go.AM.AV.refKind.eq_5⟩⟩,⟨⟨@Go.AM.AV.refKind.eq_6,@Go.AM.AV.refKind.eq_7⟩,⟨@Go.AM.AV.refKind.eq_8,@List.getD_cons_zero.{0}⟩⟩⟩⟩⟩⟩,⟨⟨⟨⟨⟨@List.getD_cons_succ.{0},⟨@List.set_cons_zero.{0},@List.set_cons_succ.{0}⟩⟩,⟨@List.getElem?_cons_zero.{0},⟨@List.getElem?_cons_succ.{0},@List.length_cons.{0}⟩⟩⟩,⟨⟨@List.length_nil.{0},⟨@List.replicate_succ.{0},@List.replicate_zero.{0}⟩⟩,⟨⟨@List.cons_append.{0},@List.nil_append.{0}⟩,⟨@List.append_nil.{0},@List.map_cons.{0,0}⟩⟩⟩⟩,⟨⟨⟨@List.map_nil.{0,0},⟨@List.take_succ_cons.{0},@List.take_zero.{0}⟩⟩,⟨⟨@List.drop_succ_cons.{0},@List.drop_zero.{0}⟩,⟨@List.all_cons.{0},@List.all_nil.{0}⟩⟩⟩,⟨⟨@Option.map_some.{0,0},⟨@Option.map_none.{0,0},@Option.bind_some.{0,0}⟩⟩,⟨⟨@Nat.zero_add,@Nat.add_zero⟩,⟨@Nat.zero_mul,@Go.AM.cast_lit⟩⟩⟩⟩⟩,⟨⟨⟨⟨@Go.AM.gd_t,⟨@Go.AM.gd_f,@gt_iff_lt.{0}⟩⟩,⟨⟨@ge_iff_le.{0},@or_self⟩,⟨@or_false,@false_or⟩⟩⟩,⟨⟨@true_implies,⟨@false_implies,@and_true⟩⟩,⟨⟨@true_and,@Bool.false_eq_true⟩,⟨@Bool.true_eq_false,@not_false_eq_true⟩⟩⟩⟩,⟨⟨⟨@not_true_eq_false,⟨@beq_self_eq_true.{0},@beq_iff_eq.{0}⟩⟩,⟨⟨@Bool.and_true,@Bool.true_and⟩,⟨@Bool.and_self,@Bool.not_true⟩⟩⟩,⟨⟨@Bool.not_false,⟨@Bool.or_false,@Bool.false_or⟩⟩,⟨⟨@Bool.or_true,@Bool.true_or⟩,⟨@decide_true,@decide_false⟩⟩⟩⟩⟩⟩⟩
theorem OPK_ :
  ((((((type_of% @Go.AM.binL.eq_1∧type_of% @Go.AM.binL.eq_2)∧(type_of% @Go.AM.binL.eq_3∧(type_of% @Go.AM.binL.eq_4∧type_of% @Go.AM.binL.eq_5)))∧((type_of% @Go.AM.binL.eq_6∧type_of% @Go.AM.binL.eq_7)∧(type_of% @Go.AM.binL.eq_8∧(type_of% @Go.AM.binL.eq_9∧type_of% @Go.AM.binL.eq_10))))∧(((type_of% @Go.AM.binL.eq_11∧type_of% @Go.AM.scBin.eq_1)∧(type_of% @Go.AM.scBin.eq_2∧(type_of% @Go.AM.scBin.eq_3∧type_of% @Go.AM.scBin.eq_4)))∧((type_of% @Go.AM.scBin.eq_5∧(type_of% @Go.AM.scBin.eq_6∧type_of% @Go.AM.blBin.eq_1))∧(type_of% @Go.AM.blBin.eq_2∧(type_of% @Go.AM.blBin.eq_3∧type_of% @Go.AM.intBin.eq_1)))))∧((((type_of% @Go.AM.intBin.eq_2∧type_of% @Go.AM.intBin.eq_3)∧(type_of% @Go.AM.intBin.eq_4∧(type_of% @Go.AM.intBin.eq_5∧type_of% @Go.AM.intBin.eq_6)))∧((type_of% @Go.AM.intBin.eq_7∧(type_of% @Go.AM.intBin.eq_8∧type_of% @Go.AM.intBin.eq_9))∧(type_of% @Go.AM.intBin.eq_10∧(type_of% @Go.AM.intBin.eq_11∧type_of% @Go.AM.intBin.eq_12))))∧(((type_of% @Go.AM.intBin.eq_13∧type_of% @Go.AM.intBin.eq_14)∧(type_of% @Go.AM.intBin.eq_15∧(type_of% @Go.AM.intBin.eq_16∧type_of% @Go.AM.intShift.eq_1)))∧((type_of% @Go.AM.intShift.eq_2∧(type_of% @Go.AM.intShift.eq_3∧type_of% @Go.AM.unL.eq_1))∧(type_of% @Go.AM.unL.eq_2∧(type_of% @Go.AM.unL.eq_3∧type_of% @Go.AM.unL.eq_4))))))∧(((((type_of% @Go.AM.load1L.eq_1∧type_of% @Go.AM.load1L.eq_2)∧(type_of% @Go.AM.load1L.eq_3∧(type_of% @Go.AM.load1L.eq_4∧type_of% @Go.AM.readCells.eq_1)))∧((type_of% @Go.AM.readCells.eq_2∧(type_of% @Go.AM.readCells.eq_3∧type_of% @Go.AM.splice.eq_1))∧(type_of% @Go.AM.splice.eq_2∧(type_of% @Go.AM.mayHold.eq_1∧type_of% @Go.AM.mayHold.eq_2))))∧(((type_of% @Go.AM.boxOf_stk∧type_of% @Go.AM.boxOf_heap)∧(type_of% @Go.AM.setBox_stk∧(type_of% @Go.AM.setBox_heap∧type_of% @Go.AM.newBox_stk)))∧((type_of% @Go.AM.newBox_heap∧(type_of% @Go.AM.app_get0∧type_of% @Go.AM.app_get))∧(type_of% @Go.AM.app_set0∧(type_of% @Go.AM.app_set∧type_of% @Go.AM.app_take)))))∧((((type_of% @Go.AM.app_one∧type_of% @List.length_append.{0})∧(type_of% @Go.AM.shift.eq_1∧(type_of% @Go.AM.shift.eq_2∧type_of% @Go.AM.shift.eq_3)))∧((type_of% @Go.AM.partL.eq_1∧(type_of% @Go.AM.partL.eq_2∧type_of% @Go.AM.capL.eq_1))∧(type_of% @Go.AM.capL.eq_2∧(type_of% @Go.AM.capL.eq_3∧type_of% @Nat.add_assoc))))∧(((type_of% @Go.AM.AV.under.eq_1∧type_of% @Go.AM.AV.under.eq_2)∧(type_of% @Go.AM.AV.under.eq_3∧(type_of% @Go.AM.AV.under.eq_4∧type_of% @Go.AM.AV.under.eq_5)))∧((type_of% @Go.AM.AV.under.eq_6∧(type_of% @Go.AM.AV.under.go.eq_1∧type_of% @Go.AM.AV.under.go.eq_2))∧(type_of% @Go.AM.finL.eq_1∧(type_of% @Go.AM.finL.eq_2∧type_of% @Go.AM.finL.eq_3))))))) :=
  ⟨⟨⟨⟨⟨⟨@Go.AM.binL.eq_1,@Go.AM.binL.eq_2⟩,⟨@Go.AM.binL.eq_3,⟨@Go.AM.binL.eq_4,@Go.AM.binL.eq_5⟩⟩⟩,⟨⟨@Go.AM.binL.eq_6,@Go.AM.binL.eq_7⟩,⟨@Go.AM.binL.eq_8,⟨@Go.AM.binL.eq_9,@Go.AM.binL.eq_10⟩⟩⟩⟩,⟨⟨⟨@Go.AM.binL.eq_11,@Go.AM.scBin.eq_1⟩,⟨@Go.AM.scBin.eq_2,⟨@Go.AM.scBin.eq_3,@Go.AM.scBin.eq_4⟩⟩⟩,⟨⟨@Go.AM.scBin.eq_5,⟨@Go.AM.scBin.eq_6,@Go.AM.blBin.eq_1⟩⟩,⟨@Go.AM.blBin.eq_2,⟨@Go.AM.blBin.eq_3,@Go.AM.intBin.eq_1⟩⟩⟩⟩⟩,⟨⟨⟨⟨@Go.AM.intBin.eq_2,@Go.AM.intBin.eq_3⟩,⟨@Go.AM.intBin.eq_4,⟨@Go.AM.intBin.eq_5,@Go.AM.intBin.eq_6⟩⟩⟩,⟨⟨@Go.AM.intBin.eq_7,⟨@Go.AM.intBin.eq_8,@Go.AM.intBin.eq_9⟩⟩,⟨@Go.AM.intBin.eq_10,⟨@Go.AM.intBin.eq_11,@Go.AM.intBin.eq_12⟩⟩⟩⟩,⟨⟨⟨@Go.AM.intBin.eq_13,@Go.AM.intBin.eq_14⟩,⟨@Go.AM.intBin.eq_15,⟨@Go.AM.intBin.eq_16,@Go.AM.intShift.eq_1⟩⟩⟩,⟨⟨@Go.AM.intShift.eq_2,⟨@Go.AM.intShift.eq_3,@Go.AM.unL.eq_1⟩⟩,⟨@Go.AM.unL.eq_2,⟨@Go.AM.unL.eq_3,@Go.AM.unL.eq_4⟩⟩⟩⟩⟩⟩,⟨⟨⟨⟨⟨@Go.AM.load1L.eq_1,@Go.AM.load1L.eq_2⟩,⟨@Go.AM.load1L.eq_3,⟨@Go.AM.load1L.eq_4,@Go.AM.readCells.eq_1⟩⟩⟩,⟨⟨@Go.AM.readCells.eq_2,⟨@Go.AM.readCells.eq_3,@Go.AM.splice.eq_1⟩⟩,⟨@Go.AM.splice.eq_2,⟨@Go.AM.mayHold.eq_1,@Go.AM.mayHold.eq_2⟩⟩⟩⟩,⟨⟨⟨@Go.AM.boxOf_stk,@Go.AM.boxOf_heap⟩,⟨@Go.AM.setBox_stk,⟨@Go.AM.setBox_heap,@Go.AM.newBox_stk⟩⟩⟩,⟨⟨@Go.AM.newBox_heap,⟨@Go.AM.app_get0,@Go.AM.app_get⟩⟩,⟨@Go.AM.app_set0,⟨@Go.AM.app_set,@Go.AM.app_take⟩⟩⟩⟩⟩,⟨⟨⟨⟨@Go.AM.app_one,@List.length_append.{0}⟩,⟨@Go.AM.shift.eq_1,⟨@Go.AM.shift.eq_2,@Go.AM.shift.eq_3⟩⟩⟩,⟨⟨@Go.AM.partL.eq_1,⟨@Go.AM.partL.eq_2,@Go.AM.capL.eq_1⟩⟩,⟨@Go.AM.capL.eq_2,⟨@Go.AM.capL.eq_3,@Nat.add_assoc⟩⟩⟩⟩,⟨⟨⟨@Go.AM.AV.under.eq_1,@Go.AM.AV.under.eq_2⟩,⟨@Go.AM.AV.under.eq_3,⟨@Go.AM.AV.under.eq_4,@Go.AM.AV.under.eq_5⟩⟩⟩,⟨⟨@Go.AM.AV.under.eq_6,⟨@Go.AM.AV.under.go.eq_1,@Go.AM.AV.under.go.eq_2⟩⟩,⟨@Go.AM.finL.eq_1,⟨@Go.AM.finL.eq_2,@Go.AM.finL.eq_3⟩⟩⟩⟩⟩⟩⟩
theorem KEY_ :
  ((((((type_of% @Go.AM.bslL.eq_1∧type_of% @Go.AM.fillE.eq_1)∧(type_of% @Go.AM.fillE.eq_2∧(type_of% @List.isEmpty_nil.{0}∧type_of% @List.isEmpty_cons.{0})))∧((type_of% @Go.AM.under_s∧type_of% @Go.AM.cells_s)∧(type_of% @Go.AM.fit_s∧(type_of% @Go.AM.under_list∧type_of% @Go.AM.cells_list))))∧(((type_of% @Go.AM.fit_list∧type_of% @Go.AM.storeS_stk)∧(type_of% @Go.AM.storeS_stk0∧(type_of% @Go.AM.storeQ_stk∧type_of% @Go.AM.storeQ_stk0)))∧((type_of% @Go.AM.cellsOf_some∧(type_of% @Go.AM.cells_u8∧type_of% @Go.AM.fit_u8))∧(type_of% @Go.AM.kA_cells∧(type_of% @Go.AM.kA_under∧type_of% @Go.AM.kA_low)))))∧((((type_of% @Go.AM.kA_calm∧type_of% @Go.AM.under_u8)∧(type_of% @Go.AM.look_u8∧(type_of% @Go.AM.elems_list∧type_of% @Go.AM.storeL_stk)))∧((type_of% @Go.AM.storeL_stk0∧(type_of% @Go.AM.readA_rop∧type_of% @Go.AM.readA_stk))∧(type_of% @Go.AM.readA_stk0∧(type_of% @Go.AM.zk_eq∧type_of% @Go.AM.kc_length))))∧(((type_of% @Go.AM.take_kc∧type_of% @Go.AM.drop_kc)∧(type_of% @Go.AM.take_kc0∧(type_of% @Go.AM.drop_zero'∧type_of% @Go.AM.get_kc16)))∧((type_of% @Go.AM.get_kc17∧(type_of% @Go.AM.take_all∧type_of% @Go.AM.look_app))∧(type_of% @Go.AM.map_look_bs∧(type_of% @Go.AM.under_app'∧type_of% @Go.AM.under_bs))))))∧(((((type_of% @Go.AM.ixl_k∧type_of% @Go.AM.lenL_list)∧(type_of% @Go.AM.lenL_str∧(type_of% @Go.AM.beq_app_k∧type_of% @Go.AM.beq_kk)))∧((type_of% @Go.AM.fits_k∧(type_of% @Go.AM.fits_kr∧type_of% @Go.AM.slice_box))∧(type_of% @Go.AM.fillL_nil∧(type_of% @Go.AM.len_map'∧type_of% @List.length_append.{0}))))∧(((type_of% @List.getD_cons_zero.{0}∧type_of% @List.getD_cons_succ.{0})∧(type_of% @Go.AM.cellsEq.eq_1∧(type_of% @List.getD_nil.{0}∧type_of% @List.length_set.{0})))∧((type_of% @Nat.zero_lt_succ∧(type_of% @Nat.lt_irrefl∧type_of% @List.set_cons_zero.{0}))∧(type_of% @List.set_cons_succ.{0}∧(type_of% @Nat.le_refl∧type_of% @Go.AM.fitsL.eq_1)))))∧((((type_of% @Go.AM.fitsL.eq_2∧type_of% @Go.AM.fitsL.eq_3)∧(type_of% @Go.AM.AV.beq.go.eq_1∧(type_of% @Go.AM.AV.beq.go.eq_2∧type_of% @Go.AM.AV.beq.go.eq_3)))∧((type_of% @Go.AM.AV.beq.eq_1∧(type_of% @Go.AM.AV.beq.eq_2∧type_of% @Go.AM.AV.beq.eq_3))∧(type_of% @Go.AM.AV.beq.eq_4∧(type_of% @Go.AM.AV.beq.eq_5∧type_of% @Go.AM.AV.beq.eq_6))))∧(((type_of% @Go.AM.AV.beq.eq_7∧type_of% @Go.AM.AV.beq.eq_8)∧(type_of% @Go.AM.AV.beq.eq_9∧(type_of% @Go.AM.AV.beq.eq_10∧type_of% @Go.AM.AV.beq.eq_11)))∧((type_of% @Go.AM.AV.beq.eq_12∧(type_of% @List.length_nil.{0}∧type_of% @List.length_cons.{0}))∧(type_of% @Go.AM.AV.cells.eq_1∧(type_of% @Go.AM.AV.cells.eq_2∧type_of% @Int.toNat_natCast))))))) :=
  ⟨⟨⟨⟨⟨⟨@Go.AM.bslL.eq_1,@Go.AM.fillE.eq_1⟩,⟨@Go.AM.fillE.eq_2,⟨@List.isEmpty_nil.{0},@List.isEmpty_cons.{0}⟩⟩⟩,⟨⟨@Go.AM.under_s,@Go.AM.cells_s⟩,⟨@Go.AM.fit_s,⟨@Go.AM.under_list,@Go.AM.cells_list⟩⟩⟩⟩,⟨⟨⟨@Go.AM.fit_list,@Go.AM.storeS_stk⟩,⟨@Go.AM.storeS_stk0,⟨@Go.AM.storeQ_stk,@Go.AM.storeQ_stk0⟩⟩⟩,⟨⟨@Go.AM.cellsOf_some,⟨@Go.AM.cells_u8,@Go.AM.fit_u8⟩⟩,⟨@Go.AM.kA_cells,⟨@Go.AM.kA_under,@Go.AM.kA_low⟩⟩⟩⟩⟩,⟨⟨⟨⟨@Go.AM.kA_calm,@Go.AM.under_u8⟩,⟨@Go.AM.look_u8,⟨@Go.AM.elems_list,@Go.AM.storeL_stk⟩⟩⟩,⟨⟨@Go.AM.storeL_stk0,⟨@Go.AM.readA_rop,@Go.AM.readA_stk⟩⟩,⟨@Go.AM.readA_stk0,⟨@Go.AM.zk_eq,@Go.AM.kc_length⟩⟩⟩⟩,⟨⟨⟨@Go.AM.take_kc,@Go.AM.drop_kc⟩,⟨@Go.AM.take_kc0,⟨@Go.AM.drop_zero',@Go.AM.get_kc16⟩⟩⟩,⟨⟨@Go.AM.get_kc17,⟨@Go.AM.take_all,@Go.AM.look_app⟩⟩,⟨@Go.AM.map_look_bs,⟨@Go.AM.under_app',@Go.AM.under_bs⟩⟩⟩⟩⟩⟩,⟨⟨⟨⟨⟨@Go.AM.ixl_k,@Go.AM.lenL_list⟩,⟨@Go.AM.lenL_str,⟨@Go.AM.beq_app_k,@Go.AM.beq_kk⟩⟩⟩,⟨⟨@Go.AM.fits_k,⟨@Go.AM.fits_kr,@Go.AM.slice_box⟩⟩,⟨@Go.AM.fillL_nil,⟨@Go.AM.len_map',@List.length_append.{0}⟩⟩⟩⟩,⟨⟨⟨@List.getD_cons_zero.{0},@List.getD_cons_succ.{0}⟩,⟨@Go.AM.cellsEq.eq_1,⟨@List.getD_nil.{0},@List.length_set.{0}⟩⟩⟩,⟨⟨@Nat.zero_lt_succ,⟨@Nat.lt_irrefl,@List.set_cons_zero.{0}⟩⟩,⟨@List.set_cons_succ.{0},⟨@Nat.le_refl,@Go.AM.fitsL.eq_1⟩⟩⟩⟩⟩,⟨⟨⟨⟨@Go.AM.fitsL.eq_2,@Go.AM.fitsL.eq_3⟩,⟨@Go.AM.AV.beq.go.eq_1,⟨@Go.AM.AV.beq.go.eq_2,@Go.AM.AV.beq.go.eq_3⟩⟩⟩,⟨⟨@Go.AM.AV.beq.eq_1,⟨@Go.AM.AV.beq.eq_2,@Go.AM.AV.beq.eq_3⟩⟩,⟨@Go.AM.AV.beq.eq_4,⟨@Go.AM.AV.beq.eq_5,@Go.AM.AV.beq.eq_6⟩⟩⟩⟩,⟨⟨⟨@Go.AM.AV.beq.eq_7,@Go.AM.AV.beq.eq_8⟩,⟨@Go.AM.AV.beq.eq_9,⟨@Go.AM.AV.beq.eq_10,@Go.AM.AV.beq.eq_11⟩⟩⟩,⟨⟨@Go.AM.AV.beq.eq_12,⟨@List.length_nil.{0},@List.length_cons.{0}⟩⟩,⟨@Go.AM.AV.cells.eq_1,⟨@Go.AM.AV.cells.eq_2,@Int.toNat_natCast⟩⟩⟩⟩⟩⟩⟩
theorem WR_ :
  (((type_of% @Go.AM.wc_length∧(type_of% @Go.AM.wc_under∧type_of% @Go.AM.wA_low))∧(type_of% @Go.AM.look_wc∧(type_of% @Go.AM.beq_wc∧type_of% @Go.AM.fits_wc)))∧((type_of% @Go.AM.ixl_w∧(type_of% @Go.AM.take_wc∧type_of% @Go.AM.take_wk))∧(type_of% @Go.AM.drop_wc∧(type_of% @Go.AM.shift_rop∧type_of% @Go.AM.load1_rop)))) :=
  ⟨⟨⟨@Go.AM.wc_length,⟨@Go.AM.wc_under,@Go.AM.wA_low⟩⟩,⟨@Go.AM.look_wc,⟨@Go.AM.beq_wc,@Go.AM.fits_wc⟩⟩⟩,⟨⟨@Go.AM.ixl_w,⟨@Go.AM.take_wc,@Go.AM.take_wk⟩⟩,⟨@Go.AM.drop_wc,⟨@Go.AM.shift_rop,@Go.AM.load1_rop⟩⟩⟩⟩
theorem CHK_ :
  (((type_of% @Go.AM.mvK_cons∧type_of% @Go.AM.okAll_nil)∧(type_of% @Go.AM.okAll_cons∧(type_of% @Go.AM.leftC_nil∧type_of% @Go.AM.leftC_cons)))∧((type_of% @Go.AM.okC_true∧type_of% @Go.AM.okC_false)∧(type_of% @Go.AM.sameV_some∧(type_of% @List.contains_cons.{0}∧type_of% @List.contains_nil.{0})))) :=
  ⟨⟨⟨@Go.AM.mvK_cons,@Go.AM.okAll_nil⟩,⟨@Go.AM.okAll_cons,⟨@Go.AM.leftC_nil,@Go.AM.leftC_cons⟩⟩⟩,⟨⟨@Go.AM.okC_true,@Go.AM.okC_false⟩,⟨@Go.AM.sameV_some,⟨@List.contains_cons.{0},@List.contains_nil.{0}⟩⟩⟩⟩
end Go.AM
namespace Go.AM
open Go
end Go.AM
namespace Go.AM
open Go
theorem lenL_row {σ:St} {r:Ref} {off len cap:Nat}:lenL .sl (.row r off len cap) σ=some len:=rfl
theorem lenL_nilS {σ:St}:lenL .sl (.s .nilS) σ=some 0:=rfl
theorem ixr_n {r:Ref} {off len cap i c:Nat} {k:IntKind} (h:i < len) (hc:c≠0):indexAddrL (.sl c) (.row r off len cap) (.s (.int k (i:Int)))=some (.ptr r (off + i * c)):=by
  have h1:(0:Int)≤i:=by omega
  have h2:(i:Int) < len:=by omega
  simp [indexAddrL,h1,h2,hc]
end Go.AM
namespace Go.AM
open Go
theorem K4_ :
  (type_of% @Go.AM.lenL_row∧(type_of% @Go.AM.lenL_nilS∧type_of% @Go.AM.ixr_n)) :=
  ⟨@Go.AM.lenL_row,⟨@Go.AM.lenL_nilS,@Go.AM.ixr_n⟩⟩
end Go.AM
namespace Go.AM
open Go
def loopO:Option HObj→Option LoopA
  | some (.loop l)=>some l
  | _=>none
theorem loopOf_eq {S:List (List AV)} {H:List HObj} {h:Nat}:loopOf ⟨S,H⟩ h=loopO H[h]? := by
  show (match H[h]? with | some (.loop l)=>some l | _=>none)=_
  cases H[h]? with
  | none=>rfl
  | some o=>cases o <;> rfl
theorem loopO_some {l:LoopA}:loopO (some (.loop l))=some l:=rfl
section
variable {C:CallW} {P:Program} {rd:Bool}
def rnd2' (h base:Nat) (K:AV→St→Prop) (e:Ex) (S:List (List AV)) (H:List HObj):Option LoopA→Prop
  | some l=>K (.bool (decide (e = .normal))) ⟨S.take base,H.set h (.loop { l with ready:=decide (e = .normal),pending:=if e = .normal then none else some e })⟩
  | none=>False
def rnd2 (h base:Nat) (K:AV→St→Prop):KC:=fun e _ σ=>rnd2' h base K e σ.stk σ.heap (loopOf σ h)
def rnd1' (C:CallW) (P:Program) (B:LCode) (h base:Nat) (K:AV→St→Prop) (fr:Fr) (S:List (List AV)) (H:List HObj):Option LoopA→Prop
  | some l=>l.ready=true∧l.pending=none∧runC C P true B [] fr ⟨S,H.set h (.loop { l with ready:=false })⟩ (rnd2 h base K)
  | none=>False
def rnd1 (C:CallW) (P:Program) (B:LCode) (h base:Nat) (K:AV→St→Prop):KC:=fun e fr σ=>e = .normal∧rnd1' C P B h base K fr σ.stk σ.heap (loopOf σ h)
theorem rnd1_n {B h base K fr S H}:rnd1 C P B h base K .normal fr ⟨S,H⟩=rnd1' C P B h base K fr S H (loopO H[h]?):=by
  unfold rnd1; rw [loopOf_eq]; simp
theorem rnd1_some {B h base K fr S H fid fr0 ps a b}:rnd1' C P B h base K fr S H (some ⟨fid,fr0,ps,a,b,true,none⟩)=runC C P true B [] fr ⟨S,H.set h (.loop ⟨fid,fr0,ps,a,b,false,none⟩)⟩ (rnd2 h base K):=by
  simp [rnd1']
theorem rnd2_e {h base K e fr S H}:rnd2 h base K e fr ⟨S,H⟩=rnd2' h base K e S H (loopO H[h]?):=by
  unfold rnd2; rw [loopOf_eq]
theorem rnd2_norm {h base K S H fid fr0 ps a b r p}:rnd2' h base K .normal S H (some ⟨fid,fr0,ps,a,b,r,p⟩)=K (.bool true) ⟨S.take base,H.set h (.loop ⟨fid,fr0,ps,a,b,true,none⟩)⟩:=(rfl)
theorem rnd2_ret {h base K S H fid fr0 ps a b r p}:rnd2' h base K .ret S H (some ⟨fid,fr0,ps,a,b,r,p⟩)=K (.bool false) ⟨S.take base,H.set h (.loop ⟨fid,fr0,ps,a,b,false,some .ret⟩)⟩:=(rfl)
theorem rnd2_exit {h base K S H fid fr0 ps a b r p id}:rnd2' h base K (.exit id) S H (some ⟨fid,fr0,ps,a,b,r,p⟩)=K (.bool false) ⟨S.take base,H.set h (.loop ⟨fid,fr0,ps,a,b,false,some (.exit id)⟩)⟩:=(rfl)
def RoundOK (C:CallW) (P:Program) (f:FuncId) (as bd:Code) (A B:LCode):Prop :=
  ∀(h:Nat) (fr0:Fr) (ps:List Tmp) (args:List AV) (S:List (List AV)) (H:List HObj) (K:AV→St→Prop),H[h]? = some (.loop ⟨f,fr0,ps,as,bd,true,none⟩)→args.length=ps.length →
    runC C P true A [] (setAll ps (args.map AV.look) fr0) ⟨S,H⟩ (rnd1 C P B h S.length K)→C (.yield h) args ⟨S,H⟩ K
def rfE (C:CallW) (P:Program) (rd:Bool) (is:List Item) (K:KC) (fr:Fr) (n:Nat) (S:List (List AV)) (H:List HObj):Option LoopA→Prop
  | some l=>(l.ready || l.pending.isSome)=true∧contK C P rd is K (l.pending.getD .normal) fr ⟨S,H.set n .dead⟩
  | none=>False
def rfK (C:CallW) (P:Program) (rd:Bool) (is:List Item) (K:KC) (fr:Fr) (n:Nat):AV→St→Prop:=fun _ σ=>rfE C P rd is K fr n σ.stk σ.heap (loopO σ.heap[n]?)
theorem rfK_eq {is K fr n v S H}:rfK C P rd is K fr n v ⟨S,H⟩=rfE C P rd is K fr n S H (loopO H[n]?):=(rfl)
theorem rfE_norm {is K fr n S H fid fr0 ps a b}:rfE C P rd is K fr n S H (some ⟨fid,fr0,ps,a,b,true,none⟩)=nxt C P rd is fr ⟨S,H.set n .dead⟩ K:=by simp [rfE,nxt]
theorem rfE_ret {is K fr n S H fid fr0 ps a b r}:rfE C P rd is K fr n S H (some ⟨fid,fr0,ps,a,b,r,some .ret⟩)=rtn C P rd is fr ⟨S,H.set n .dead⟩ K:=by simp [rfE,rtn]
theorem rfE_exit {is K fr n S H fid fr0 ps a b r id}:rfE C P rd is K fr n S H (some ⟨fid,fr0,ps,a,b,r,some (.exit id)⟩)=ext C P rd id is fr ⟨S,H.set n .dead⟩ K:=by simp [rfE,ext]
def rfn (C:CallW) (P:Program) (rd:Bool) (f:FuncId) (ps:Array Tmp) (a b:Code) (is:List Item) (fr:Fr) (S:List (List AV)) (H:List HObj) (K:KC):AV→Prop
  | .fn (.func h) first captured=>hasBody P h=true∧C (.fn h) (first ++ [.yield H.length] ++ captured) ⟨S,H ++ [.loop ⟨f,fr.map lasting,ps.toList,a,b,true,none⟩]⟩ (rfK C P rd is K fr H.length)
  | _=>False
theorem runC_rfun {g f ps a b is fr S H K}:runC C P false (.rfun g f ps a b) is fr ⟨S,H⟩ K=rfn C P false f ps a b is fr S H K (seL fr g):=by
  show (false=false∧(match seL fr g with | .fn (.func h) first captured=>_ | _=>False))=_
  simp only [true_and]
  cases hs:seL fr g with
  | fn fn first captured =>
    cases fn with
    | func h =>
      show (_∧_)=(_∧_)
      refine congr (congrArg And rfl) ?_
      refine congrArg (C (.fn h) (first ++ [.yield H.length] ++ captured) ⟨S,H ++ [.loop ⟨f,fr.map lasting,ps.toList,a,b,true,none⟩]⟩) ?_
      funext v σ'
      show (match σ'.heap[H.length]? with | some (.loop l)=>_ | _=>False)=rfE C P false is K fr H.length σ'.stk σ'.heap (loopO σ'.heap[H.length]?)
      cases σ'.heap[H.length]? with
      | none=>rfl
      | some o=>cases o <;> rfl
    | _=>rfl
  | _=>rfl
theorem rfn_fn {f ps a b is fr S H K h first captured}:rfn C P rd f ps a b is fr S H K (.fn (.func h) first captured)=(hasBody P h=true∧C (.fn h) (first ++ [.yield H.length] ++ captured) ⟨S,H ++ [.loop ⟨f,fr.map lasting,ps.toList,a,b,true,none⟩]⟩ (rfK C P rd is K fr H.length)):=(rfl)
end
def rfsOf:Code→List (Code×Code)
  | .seq a b=>rfsOf a ++ rfsOf b
  | .cond _ a b=>rfsOf a ++ rfsOf b
  | .block _ b=>rfsOf b
  | .loop b=>rfsOf b
  | .rangeFunc _ _ a b=>[(a,b)]
  | _=>[]
def rfAt (P:Program) (f:FuncId) (i:Nat):Code×Code :=
  match P.funcs[f]? with
  | some fn=>match fn.body with
    | some c=>(rfsOf c).getD i (.skip,.skip)
    | none=>(.skip,.skip)
  | none=>(.skip,.skip)
theorem roundE {P:Program} {cfg:Cfg} {tr:Trees} {f:FuncId} {as bd:Code} {A B:LCode} (t1:treesIn cfg tr f as=true) (t2:treesIn cfg tr f bd=true) (hA:lowCode P cfg tr f 0 as=A) (hB:lowCode P cfg tr f 0 bd=B):RoundOK (EvW P cfg tr) P f as bd A B:=by
  intro h fr0 ps args S H K hl ha hr
  refine EvW.fold ?_
  show roundW (EvW P cfg tr) P cfg tr h args ⟨S,H⟩ K
  have hlo:loopOf ⟨S,H⟩ h=some ⟨f,fr0,ps,as,bd,true,none⟩:=by rw [loopOf_eq,hl]; rfl
  unfold roundW
  rw [hlo]
  refine ⟨ha,t1,t2,?_⟩
  subst hA; subst hB
  refine codeW_mono EvW.le as (fun e fr σ1 hk => ?_) (execL_ok EvW.le as 0 _ _ _ hr)
  obtain ⟨he,hk⟩:=hk
  refine ⟨he,?_⟩
  unfold rnd1' at hk
  cases hl1:loopOf σ1 h with
  | none=>rw [hl1] at hk; exact hk.elim
  | some l1 =>
    rw [hl1] at hk
    obtain ⟨h1,h2,h3⟩:=hk
    refine ⟨h1,h2,?_⟩
    refine codeW_mono EvW.le bd (fun e fr σ2 hk => ?_) (execL_ok EvW.le bd 0 _ _ _ h3)
    unfold contK rnd2 rnd2' at hk
    cases hl2:loopOf σ2 h with
    | none=>rw [hl2] at hk; exact hk.elim
    | some l2=>rw [hl2] at hk; exact hk
end Go.AM
namespace Go.AM
open Go
structure Stp where
  t:Int
  n:UInt8
  deriving DecidableEq
def stc (s:Stp):List AV:=[.s (.int .i64 s.t),u8 s.n]
def sA (s:Stp):AV := .agg (stc s)
theorem stc_length (s:Stp):(stc s).length=2:=rfl
theorem stc_under {n:Nat} {s:Stp}:AV.under.go n (stc s)=true:=rfl
theorem sA_under {n:Nat} {s:Stp}:AV.under n (sA s)=true:=rfl
theorem look_stc (s:Stp):(stc s).map AV.look=stc s:=rfl
theorem fits_stc (s:Stp):fitsL [.int .i64,.int .u8] (stc s)=true:=rfl
theorem beq_stc (a b:Stp):AV.beq.go (stc a) (stc b)=decide (a=b):=by
  cases a; cases b
  simp only [stc,AV.beq.go,AV.beq,u8_inj,Bool.and_true,Sc.int.injEq,true_and,Stp.mk.injEq,Bool.decide_and]
theorem take_stc (s:Stp) (r:List AV):(stc s ++ r).take 2=stc s:=rfl
theorem drop_stc (s:Stp) (r:List AV):(stc s ++ r).drop 2=r:=rfl
theorem stc_get0 (s:Stp):(stc s)[0]? = some (.s (.int .i64 s.t)):=rfl
theorem stc_get1 (s:Stp):(stc s)[1]? = some (u8 s.n):=rfl
def FnS (C:CallW) (f:FuncId) (args:List AV) (v:AV):Prop:=∀S H (K:AV→St→Prop),K v ⟨S,H⟩→C (.fn f) args ⟨S,H⟩ K
end Go.AM
namespace Go.AM
open Go
theorem K5_ :
  (((((type_of% @Go.AM.runC_rfun∧type_of% @Go.AM.rfn_fn)∧(type_of% @Go.AM.rfK_eq∧(type_of% @Go.AM.rfE_norm∧type_of% @Go.AM.rfE_ret)))∧((type_of% @Go.AM.rfE_exit∧type_of% @Go.AM.rnd1_n)∧(type_of% @Go.AM.rnd1_some∧(type_of% @Go.AM.rnd2_e∧type_of% @Go.AM.rnd2_norm))))∧(((type_of% @Go.AM.rnd2_ret∧type_of% @Go.AM.rnd2_exit)∧(type_of% @Go.AM.loopO_some∧(type_of% @Go.AM.setAll.eq_1∧type_of% @Go.AM.setAll.eq_2)))∧((type_of% @Go.AM.lasting.eq_1∧(type_of% @Go.AM.stc_length∧type_of% @Go.AM.stc_under))∧(type_of% @Go.AM.sA_under∧(type_of% @Go.AM.look_stc∧type_of% @Go.AM.fits_stc)))))∧((((type_of% @Go.AM.beq_stc∧type_of% @Go.AM.take_stc)∧(type_of% @Go.AM.drop_stc∧(type_of% @Go.AM.stc_get0∧type_of% @Go.AM.stc_get1)))∧((type_of% @Go.AM.LK.fits.eq_1∧type_of% @Go.AM.LK.fits.eq_2)∧(type_of% @Go.AM.LK.fits.eq_3∧(type_of% @Go.AM.LK.fits.eq_4∧type_of% @Go.AM.KK.fits.eq_1))))∧(((type_of% @Go.AM.KK.fits.eq_2∧type_of% @Go.AM.KK.fits.eq_3)∧(type_of% @Go.AM.u8_inj∧(type_of% @Go.AM.Sc.int.injEq∧type_of% @Go.AM.Sc.str.injEq)))∧((type_of% @Go.AM.Sc.bool.injEq∧(type_of% @Go.AM.wrap_i64∧type_of% @Bool.false_and))∧(type_of% @Bool.and_false∧(type_of% @Nat.not_lt_zero∧type_of% @Go.AM.beq_refl)))))) :=
  ⟨⟨⟨⟨⟨@Go.AM.runC_rfun,@Go.AM.rfn_fn⟩,⟨@Go.AM.rfK_eq,⟨@Go.AM.rfE_norm,@Go.AM.rfE_ret⟩⟩⟩,⟨⟨@Go.AM.rfE_exit,@Go.AM.rnd1_n⟩,⟨@Go.AM.rnd1_some,⟨@Go.AM.rnd2_e,@Go.AM.rnd2_norm⟩⟩⟩⟩,⟨⟨⟨@Go.AM.rnd2_ret,@Go.AM.rnd2_exit⟩,⟨@Go.AM.loopO_some,⟨@Go.AM.setAll.eq_1,@Go.AM.setAll.eq_2⟩⟩⟩,⟨⟨@Go.AM.lasting.eq_1,⟨@Go.AM.stc_length,@Go.AM.stc_under⟩⟩,⟨@Go.AM.sA_under,⟨@Go.AM.look_stc,@Go.AM.fits_stc⟩⟩⟩⟩⟩,⟨⟨⟨⟨@Go.AM.beq_stc,@Go.AM.take_stc⟩,⟨@Go.AM.drop_stc,⟨@Go.AM.stc_get0,@Go.AM.stc_get1⟩⟩⟩,⟨⟨@Go.AM.LK.fits.eq_1,@Go.AM.LK.fits.eq_2⟩,⟨@Go.AM.LK.fits.eq_3,⟨@Go.AM.LK.fits.eq_4,@Go.AM.KK.fits.eq_1⟩⟩⟩⟩,⟨⟨⟨@Go.AM.KK.fits.eq_2,@Go.AM.KK.fits.eq_3⟩,⟨@Go.AM.u8_inj,⟨@Go.AM.Sc.int.injEq,@Go.AM.Sc.str.injEq⟩⟩⟩,⟨⟨@Go.AM.Sc.bool.injEq,⟨@Go.AM.wrap_i64,@Bool.false_and⟩⟩,⟨@Bool.and_false,⟨@Nat.not_lt_zero,@Go.AM.beq_refl⟩⟩⟩⟩⟩⟩
end Go.AM
namespace Go.AM
open Go
structure Tx where
  id:Int
  snap:Stp
  stamp:Stp
  done:Bool
  reads:List Wr
  writes:List Wr
def txc (x:Tx):List AV:=[.s (.int .i64 x.id),.s (.int .i64 x.snap.t),u8 x.snap.n,.s (.int .i64 x.stamp.t),u8 x.stamp.n,.s (.bool x.done),.list .sh 18 (x.reads.map wA),.list .sh 18 (x.writes.map wA)]
def txA (x:Tx):AV := .agg (txc x)
theorem ixl_t {l:List Tx} {i c:Nat} {k:IntKind} (h:i < l.length) (hc:c≠0):indexAddrL (.sl c) (.list .sh c (l.map txA)) (.s (.int k (i:Int)))=some (.rop (txc l[i])):=ixl_map h hc
theorem under_yield {n h:Nat}:AV.under n (.yield h)=true:=rfl
def hcells:HObj→List AV
  | .cells cs=>cs
  | _=>[]
theorem storeL_heap {S:List (List AV)} {H l:List HObj} {j n:Nat} {vs:List AV} (hj:j < l.length) (h:(hcells (l.getD j .dead)).length=n) (hv:vs.length=n) (hn:2≤n) (hu:AV.under.go 0 vs=true):storeL n (.ptr (.heap (H.length + j)) 0) (.agg vs) ⟨S,H ++ l⟩=some ⟨S,H ++ l.set j (.cells vs)⟩:=by
  have e:l[j]? = some (l.getD j .dead):=by simp [List.getD,hj]
  cases hb:l.getD j .dead with
  | cells cs =>
    rw [hb] at h e
    have h:cs.length=n:=h
    have hs:splice cs 0 vs=vs:=by
      unfold splice
      split
      · simp at hv; omega
      · rw [List.take_zero,List.nil_append,Nat.zero_add,hv,List.drop_of_length_le (Nat.le_of_eq h),List.append_nil]
    have h':cs.length=n:=h
    simp only [storeL,AV.cells,AV.fit,hv,writeCells,boxOf_heap,app_get,e,cellsOf?,Option.bind_some,hs,setBox_heap,app_set,mayHold,hu,h',Nat.zero_add,Nat.le_refl,decide_true,Bool.and_self,if_true,true_and]
    rw [if_pos (by simp; omega)]
  | _=>rw [hb] at h; simp [hcells] at h; omega
theorem storeL_heap0 {S:List (List AV)} {H l:List HObj} {n:Nat} {vs:List AV} (hj:0 < l.length) (h:(hcells (l.getD 0 .dead)).length=n) (hv:vs.length=n) (hn:2≤n) (hu:AV.under.go 0 vs=true):storeL n (.ptr (.heap H.length) 0) (.agg vs) ⟨S,H ++ l⟩=some ⟨S,H ++ l.set 0 (.cells vs)⟩:=storeL_heap (j:=0) hj h hv hn hu
theorem storeS_heap {S:List (List AV)} {H l:List HObj} {j off:Nat} {x:Sc} (hj:j < l.length) (h:off < (hcells (l.getD j .dead)).length):storeL 1 (.ptr (.heap (H.length + j)) off) (.s x) ⟨S,H ++ l⟩=some ⟨S,H ++ l.set j (.cells ((hcells (l.getD j .dead)).set off (.s x)))⟩:=by
  have e:l[j]? = some (l.getD j .dead):=by simp [List.getD,hj]
  cases hb:l.getD j .dead with
  | cells cs =>
    rw [hb] at h e
    have h1:off + 1≤cs.length:=h
    simp only [storeL,AV.cells,AV.fit,List.length_cons,List.length_nil,writeCells,boxOf_heap,app_get,e,cellsOf?,Option.bind_some,splice,setBox_heap,app_set,mayHold,AV.under.go,AV.under,Nat.zero_add,h1,decide_true,Bool.and_self,if_true,true_and,and_self,hcells]
    rw [if_pos (by simp)]
  | _=>rw [hb] at h; simp [hcells] at h
theorem storeS_heap0 {S:List (List AV)} {H l:List HObj} {off:Nat} {x:Sc} (hj:0 < l.length) (h:off < (hcells (l.getD 0 .dead)).length):storeL 1 (.ptr (.heap H.length) off) (.s x) ⟨S,H ++ l⟩=some ⟨S,H ++ l.set 0 (.cells ((hcells (l.getD 0 .dead)).set off (.s x)))⟩:=storeS_heap (j:=0) hj h
theorem readA_heap' {S:List (List AV)} {H l:List HObj} {j n off:Nat} (hj:j < l.length) (h:off + n≤(hcells (l.getD j .dead)).length) (hn:0 < n) (hn1:n≠1):readA ⟨S,H ++ l⟩ (.ptr (.heap (H.length + j)) off) n=some (.agg ((((hcells (l.getD j .dead)).drop off).take n).map AV.look)):=by
  have e:l[j]? = some (l.getD j .dead):=by simp [List.getD,hj]
  cases hb:l.getD j .dead with
  | cells cs =>
    rw [hb] at h e
    have h':off + n≤cs.length:=h
    simp only [readA,readCells,boxOf_heap,app_get,e,cellsOf?,Option.bind_some,if_pos (And.intro h' (Or.inl hn1)),Option.map_some,hcells]
  | _=>rw [hb] at h; simp [hcells] at h; omega
theorem readA_heap0 {S:List (List AV)} {H l:List HObj} {n off:Nat} (hj:0 < l.length) (h:off + n≤(hcells (l.getD 0 .dead)).length) (hn:0 < n) (hn1:n≠1):readA ⟨S,H ++ l⟩ (.ptr (.heap H.length) off) n=some (.agg ((((hcells (l.getD 0 .dead)).drop off).take n).map AV.look)):=readA_heap' (j:=0) hj h hn hn1
theorem wc_get16 (w:Wr):(wc w)[16]? = some (.s (.str w.val)):=get_kc16 w.key [.s (.str w.val),.s (.bool w.gone)]
theorem wc_get17 (w:Wr):(wc w)[17]? = some (.s (.bool w.gone)):=get_kc17 w.key [.s (.str w.val),.s (.bool w.gone)]
theorem fits_u8b {b:UInt8}:(LK.int .u8).fits (u8 b)=true:=rfl
theorem wA_eq (w:Wr):wA w = .agg (wc w):=rfl
end Go.AM
namespace Go.AM
open Go
theorem K6_ :
  ((((type_of% @Go.AM.ixl_t∧type_of% @Go.AM.txc.eq_1)∧(type_of% @Go.AM.under_yield∧type_of% @Go.AM.hcells.eq_1))∧((type_of% @Go.AM.hcells.eq_2∧type_of% @Go.AM.storeL_heap)∧(type_of% @Go.AM.storeL_heap0∧type_of% @Go.AM.storeS_heap)))∧(((type_of% @Go.AM.storeS_heap0∧type_of% @Go.AM.readA_heap')∧(type_of% @Go.AM.readA_heap0∧type_of% @Go.AM.wA_eq))∧((type_of% @Go.AM.wc_get16∧type_of% @Go.AM.wc_get17)∧(type_of% @Go.AM.fillL.eq_1∧(type_of% @Go.AM.fillL.eq_2∧type_of% @Go.AM.fits_u8b))))) :=
  ⟨⟨⟨⟨@Go.AM.ixl_t,@Go.AM.txc.eq_1⟩,⟨@Go.AM.under_yield,@Go.AM.hcells.eq_1⟩⟩,⟨⟨@Go.AM.hcells.eq_2,@Go.AM.storeL_heap⟩,⟨@Go.AM.storeL_heap0,@Go.AM.storeS_heap⟩⟩⟩,⟨⟨⟨@Go.AM.storeS_heap0,@Go.AM.readA_heap'⟩,⟨@Go.AM.readA_heap0,@Go.AM.wA_eq⟩⟩,⟨⟨@Go.AM.wc_get16,@Go.AM.wc_get17⟩,⟨@Go.AM.fillL.eq_1,⟨@Go.AM.fillL.eq_2,@Go.AM.fits_u8b⟩⟩⟩⟩⟩
end Go.AM
namespace Go.AM
open Go
theorem slc_hi {c n:Nat} {es:List AV} {k:IntKind} (h:n≤es.length):sliceL (.sl c) (.list .sh c es) none (some (.s (.int k (n:Int)))) none=some (.list .sh c (es.take n)):=by
  have h0:(0:Int)≤n:=by omega
  simp only [sliceL,bound,h0,if_true,Int.toNat_natCast,reduceCtorEq,if_false,Nat.zero_le,h,and_self,List.drop_zero,false_and]
theorem slc_lo {c n:Nat} {es:List AV} {k:IntKind} (h:n≤es.length):sliceL (.sl c) (.list .sh c es) (some (.s (.int k (n:Int)))) none none=some (.list .sh c (es.drop n)):=by
  have h0:(0:Int)≤n:=by omega
  simp only [sliceL,bound,h0,if_true,Int.toNat_natCast,reduceCtorEq,if_false,h,Nat.le_refl,and_self,false_and,List.take_length]
theorem slc_both {c m n:Nat} {es:List AV} {k k':IntKind} (hm:m≤n) (h:n≤es.length):sliceL (.sl c) (.list .sh c es) (some (.s (.int k (m:Int)))) (some (.s (.int k' (n:Int)))) none=some (.list .sh c ((es.take n).drop m)):=by
  have h0:(0:Int)≤n:=by omega
  have h1:(0:Int)≤m:=by omega
  simp only [sliceL,bound,h0,h1,if_true,Int.toNat_natCast,reduceCtorEq,if_false,hm,h,and_self,false_and]
def Own1 (fl:Fl) (es:List AV):Prop:=fl = .uniq∨fl = .full∧es=[]
theorem Own1.wk {fl:Fl} {c:Nat} {es:List AV} (h:Own1 fl es) {as bs:List AV} (t:WkF as bs):WkF (.list fl c es :: as) (.list .sh c es :: bs):=by
  rcases h with rfl | ⟨rfl,rfl⟩
  · exact .uniq t
  · exact .full t
def slG (c:Nat) (es:List AV):AV:=if es=[] then .s .nilS else .list .uniq c es
theorem slG_nil {c:Nat}:slG c [] = .s .nilS:=rfl
theorem slG_under {n c:Nat} {es:List AV}:AV.under n (slG c es)=true:=by unfold slG; split <;> rfl
theorem app_slG {e:ET} {es:List AV} {a:AV} {σ:St} (hu:AV.under 0 a=true) (hb:2 * (es.length + 1) * e.bytes≤2 ^ 48):appendL e false (slG e.c es) (.list .full e.c [a]) σ=some (slG e.c (es ++ [a]),σ):=by
  have he:elemsL e (.list .full e.c [a]) σ=some [a]:=by simp [elemsL]
  have h1:1 * e.bytes≤2 ^ 48:=Nat.le_trans (Nat.mul_le_mul_right _ (by omega)) hb
  have hg:AV.under.go 0 [a]=true:=by simp [AV.under.go,hu]
  unfold appendL
  simp only [srcL,AV.isSlice,if_true,he,Option.bind_some,hg]
  unfold slG
  by_cases h:es=[]
  · subst h
    simp [appItems] at h1 ⊢
    omega
  · rw [if_neg h]
    simp only [appItems,ne_eq,not_true_eq_false,if_false,List.isEmpty_cons,Bool.false_eq_true,List.length_cons,List.length_nil,Nat.zero_add,hb,if_true]
    simp
theorem drop_kc17 {k:Key} {a:AV} {r:List AV}:(bs k.b ++ a :: r).drop 17=r:=by rw [show bs k.b ++ a :: r=(bs k.b ++ [a]) ++ r by simp,List.drop_left' (by simp [kc_length])]
theorem take_kc17 {k:Key} {a:AV} {r:List AV}:(bs k.b ++ a :: r).take 17=bs k.b ++ [a]:=by rw [show bs k.b ++ a :: r=(bs k.b ++ [a]) ++ r by simp,List.take_left' (by simp [kc_length])]
theorem drop_kc18 {k:Key} {a b:AV} {r:List AV}:(bs k.b ++ a :: b :: r).drop 18=r:=by rw [show bs k.b ++ a :: b :: r=(bs k.b ++ [a,b]) ++ r by simp,List.drop_left' (by simp [kc_length])]
theorem take_kc18 {k:Key} {a b:AV} {r:List AV}:(bs k.b ++ a :: b :: r).take 18=bs k.b ++ [a,b]:=by rw [show bs k.b ++ a :: b :: r=(bs k.b ++ [a,b]) ++ r by simp,List.take_left' (by simp [kc_length])]
end Go.AM
namespace Go.AM
open Go
theorem K7_ :
  (((type_of% @Go.AM.slc_hi∧type_of% @Go.AM.slc_lo)∧(type_of% @Go.AM.slc_both∧type_of% @Go.AM.slG_nil))∧((type_of% @Go.AM.slG_under∧type_of% @Go.AM.drop_kc17)∧(type_of% @Go.AM.take_kc17∧(type_of% @Go.AM.drop_kc18∧type_of% @Go.AM.take_kc18)))) :=
  ⟨⟨⟨@Go.AM.slc_hi,@Go.AM.slc_lo⟩,⟨@Go.AM.slc_both,@Go.AM.slG_nil⟩⟩,⟨⟨@Go.AM.slG_under,@Go.AM.drop_kc17⟩,⟨@Go.AM.take_kc17,⟨@Go.AM.drop_kc18,@Go.AM.take_kc18⟩⟩⟩⟩
theorem A_:type_of% RUN_∧type_of% FR_∧type_of% OPK_∧type_of% KEY_∧type_of% WR_∧type_of% CHK_∧type_of% K4_∧type_of% K5_∧type_of% K6_∧type_of% K7_∧type_of% @e_stu∧type_of% @t_stu:=⟨RUN_,FR_,OPK_,KEY_,WR_,CHK_,K4_,K5_,K6_,K7_,@e_stu,@t_stu⟩
end Go.AM
namespace Go.AM
open Go
set_option maxRecDepth 20000
end Go.AM
namespace Go.AM
open Go
set_option maxRecDepth 20000
def BA (a:AV) (b:List UInt8):Prop:=(∃fl,a = .list fl 1 (bs b))∨a = .s .nilS∧b=[]
theorem BA.wk {a:AV} {b:List UInt8} (h:BA a b) {as cs:List AV} (t:WkF as cs):WkF (a :: as) (.list .sh 1 (bs b) :: cs):=by
  rcases h with ⟨fl,rfl⟩ | ⟨rfl,rfl⟩
  · cases fl <;> first | exact .same t | exact .wk (.same .nil) t | exact .wk (.full .nil) t | exact .uniq t | exact .full t
  · exact .nilS (by omega) t
theorem BA.l {fl:Fl} {b:List UInt8}:BA (.list fl 1 (bs b)) b := .inl ⟨fl,rfl⟩
theorem BA.n:BA (.s .nilS) [] := .inr ⟨rfl,rfl⟩
end Go.AM
namespace Go.AM
open Go
set_option maxRecDepth 20000
end Go.AM
namespace Go.AM
open Go
set_option maxRecDepth 20000
def y2a1:LCode:=(.seq (.sq [(zv 3 0),(zv 4 0),(zs 5 (.bin .neq .sc (.t 3) (.t 4))),(zs 2 (.mv true (.t 5)))]) .ret)
def Uz5a:=PLift.up (@unfC _ _ (y2a1.eq_1))
def Cz35:LFn:=⟨6,[.t 2],(.seq (.sq [(zs 2 (.mv true zF))]) y2a1)⟩
def y2c1 (c:Nat→FuncId):LCode:=(.seq (.seq (.sq [(zv 12 6)]) (.cond (.t 12) (.seq (.sq [(zs 4 (.mv true (zi 0)))]) .ret) .skip)) (.seq (.sq [(zs 4 (.mv true (.c (.int .i64 (-1)))))]) .ret))
def y2c2 (c:Nat→FuncId):LCode:=(.seq (.seq (.sq [(zv 17 0),(zv 18 1),(zs 19 (.bin .gtr .sc (.t 17) (.t 18)))]) (.cond (.t 19) (.seq (.sq [(zs 4 (.mv true (zi 1)))]) .ret) .skip)) (.seq (.sq [(zs 4 (.mv true (zi 0)))]) .ret))
def y2c3 (c:Nat→FuncId):LCode:=(.seq (.seq (.sq [(zv 14 0),(zv 15 1),(zs 16 (.bin .lss .sc (.t 14) (.t 15)))]) (.cond (.t 16) (.seq (.sq [(zs 4 (.mv true (.c (.int .i64 (-1)))))]) .ret) .skip)) (y2c2 c))
def y2c4 (c:Nat→FuncId):LCode:=(.seq (.seq (.sq [(zv 13 6)]) (.cond (.t 13) (.seq (.sq [(zs 4 (.mv true (zi 1)))]) .ret) .skip)) (y2c3 c))
def y2c5 (c:Nat→FuncId):LCode:=(.seq (.seq (.sq [(zv 11 5)]) (.cond (.t 11) (y2c1 c) .skip)) (y2c4 c))
def y2c6 (c:Nat→FuncId):LCode:=(.seq (.sq [(zv 9 1),(zs 10 (.call (.f (c 0)) [(.t 9)])),(zs 6 (.mv true (.t 10)))]) (y2c5 c))
def y2c7 (c:Nat→FuncId):LCode:=(.seq (.sq [(zv 7 0),(zs 8 (.call (.f (c 0)) [(.t 7)])),(zs 5 (.mv true (.t 8)))]) (y2c6 c))
def Uz2d (c:Nat→FuncId):=PLift.up (zc (zc (@unfC _ _ (y2c1.eq_1 c)) (zc (@unfC _ _ (y2c2.eq_1 c)) (@unfC _ _ (y2c3.eq_1 c)))) (zc (zc (@unfC _ _ (y2c4.eq_1 c)) (@unfC _ _ (y2c5.eq_1 c))) (zc (@unfC _ _ (y2c6.eq_1 c)) (@unfC _ _ (y2c7.eq_1 c)))))
def Cz2t (c:Nat→FuncId):LFn:=⟨20,[.t 4],(.seq (.sq [(zs 4 (.mv true (zi 0)))]) (y2c7 c))⟩
def y2e1:LCode:=(.cond (.t 14) (.seq (.sq [(zv 15 5),(zs 2 (.mv true (.t 15)))]) .ret) .skip)
def y2e2:LCode:=(.seq (.sq [(zv 12 5),(zv 13 3),(zs 14 (.bin .neq .sc (.t 12) (.t 13)))]) y2e1)
def y2e3:LCode:=(.seq (.block 1 (.seq (.sq [(zs 10 (.ixa (.sl 1) (.t 6) (.t 8))),(zs 11 (.load1 false (.t 10))),(zs 5 (.mv true (.t 11)))]) y2e2)) (.sq [(zs 16 (.bin .add .sc (.t 8) (zi 1))),(zv 8 16)]))
def y2e4:LCode:=(.block 0 (.loop [false,false,false,true,false,false,true,true,true,false,false,false,false,false,false,false,false,false] (.seq (.sq [(zs 9 (.bin .lss .sc (.t 8) (.t 7)))]) (.seq (.cond (.t 9) .skip (.exit 0)) y2e3))))
def y2e5:LCode:=(.seq (.seq (.sq [(zv 6 0),(zs 7 (.len .sl (.t 6))),(zs 8 (.mv false (zi 0)))]) y2e4) (.seq (.sq [(zv 17 3),(zs 2 (.mv true (.t 17)))]) .ret))
def Uz2s:=PLift.up (zc (zc (@unfC _ _ (y2e1.eq_1)) (@unfC _ _ (y2e2.eq_1))) (zc (@unfC _ _ (y2e3.eq_1)) (zc (@unfC _ _ (y2e4.eq_1)) (@unfC _ _ (y2e5.eq_1)))))
def Cz4i:LFn:=⟨18,[.t 2],(.seq (.sq [(zs 2 (.mv true (zi 0)))]) (.seq (.sq [(zs 3 (.mv true (zi 0)))]) y2e5))⟩
end Go.AM
namespace Go.AM
open Go
set_option maxRecDepth 20000
theorem isNaN_spec {C:CallW} (P:Program) (x:Int):∀S H (K:AV→St→Prop),K (.bool false) ⟨S,H⟩→runL C P Cz35 [.s (.int .i64 x)] ⟨S,H⟩ K:=by
  intro S H K hK
  simp only [Cz35,RUN_,Uz5a.1,FR_,simprocAttr,if_true,if_false,ite_true,ite_false,ne_eq,eq_self,OPK_,KEY_]
  exact hK
def cmpI (x y:Int):Int:=if x < y then -1 else if y < x then 1 else 0
theorem Compare_spec {C:CallW} (P:Program) {c:Nat→FuncId} (h:∀x:Int,FnS C (c 0) [.s (.int .i64 x)] (.bool false)) (x y:Int):∀S H (K:AV→St→Prop),K (.i (cmpI x y)) ⟨S,H⟩→runL C P (Cz2t c) [.s (.int .i64 x),.s (.int .i64 y)] ⟨S,H⟩ K:=by
  intro S H K hK
  simp only [Cz2t,RUN_,(Uz2d _).1,FR_,simprocAttr,if_true,if_false,ite_true,ite_false,ne_eq,eq_self,OPK_,KEY_]
  refine h _ _ _ _ ?_
  simp only [RUN_,(Uz2d _).1,FR_,simprocAttr,if_true,if_false,ite_true,ite_false,ne_eq,eq_self,OPK_,KEY_]
  refine h _ _ _ _ ?_
  unfold cmpI at hK
  by_cases h1:x < y
  · rw [if_pos h1] at hK
    simp only [RUN_,(Uz2d _).1,FR_,simprocAttr,if_true,if_false,ite_true,ite_false,ne_eq,eq_self,OPK_,KEY_,h1]
    exact hK
  · rw [if_neg h1] at hK
    by_cases h2:y < x
    · rw [if_pos h2] at hK
      simp only [RUN_,(Uz2d _).1,FR_,simprocAttr,if_true,if_false,ite_true,ite_false,ne_eq,eq_self,OPK_,KEY_,h1,h2]
      exact hK
    · rw [if_neg h2] at hK
      simp only [RUN_,(Uz2d _).1,FR_,simprocAttr,if_true,if_false,ite_true,ite_false,ne_eq,eq_self,OPK_,KEY_,h1,h2]
      exact hK
theorem Or_spec {C:CallW} (hC:LeC C C) (P:Program) (x y:Int):∀S H (K:AV→St→Prop),K (.i (if x≠0 then x else y)) ⟨S,H⟩→runL C P Cz4i [.list .sh 1 [.i x,.i y]] ⟨S,H⟩ K:=by
  intro S H K hK
  have go:∀{n0 m b is fr K},underL n0 (keep m fr)=true→runC C P false b (.lp m b n0 :: is) (keep m fr) ⟨S.take n0,H⟩ K→runLp C P false m b n0 is fr ⟨S,H⟩ K:=fun hu h=>loop_step hC rfl hu h
  have w1:IntKind.i64.wrap 1=1:=by decide
  have w2:IntKind.i64.wrap 2=2:=by decide
  simp only [Cz4i,RUN_,Uz2s.1,FR_,simprocAttr,if_true,if_false,ite_true,ite_false,ne_eq,eq_self,OPK_,KEY_]
  refine go (by simp [keep,AV.under,AV.under.go]) ?_
  simp only [keep,List.take_length]
  by_cases h1:x=0
  · have h1':(x=0)=True:=eq_true h1
    rw [if_neg (by simpa using h1)] at hK
    simp only [RUN_,Uz2s.1,FR_,simprocAttr,if_true,if_false,ite_true,ite_false,ne_eq,eq_self,OPK_,KEY_,indexAddrL,Int.toNat_zero,h1']
    refine go (by simp [keep,AV.under,AV.under.go]) ?_
    simp only [keep,List.take_length]
    by_cases h2:y=0
    · have h2':(y=0)=True:=eq_true h2
      simp only [RUN_,Uz2s.1,FR_,simprocAttr,if_true,if_false,ite_true,ite_false,ne_eq,eq_self,OPK_,KEY_,indexAddrL,w1,Int.toNat_one,h2']
      refine go (by simp [keep,AV.under,AV.under.go]) ?_
      simp only [keep,List.take_length]
      simp only [RUN_,Uz2s.1,FR_,simprocAttr,if_true,if_false,ite_true,ite_false,ne_eq,eq_self,OPK_,KEY_,w2]
      rw [h2] at hK
      exact hK
    · simp only [RUN_,Uz2s.1,FR_,simprocAttr,if_true,if_false,ite_true,ite_false,ne_eq,eq_self,OPK_,KEY_,indexAddrL,w1,Int.toNat_one,h2]
      exact hK
  · rw [if_pos h1] at hK
    simp only [RUN_,Uz2s.1,FR_,simprocAttr,if_true,if_false,ite_true,ite_false,ne_eq,eq_self,OPK_,KEY_,indexAddrL,Int.toNat_zero,h1]
    exact hK
end Go.AM
namespace Go.AM
open Go
set_option maxRecDepth 20000
theorem wrap_u64 {x:Int}:IntKind.u64.wrap x=x % 18446744073709551616:=by
  unfold IntKind.wrap
  simp [IntKind.signed,IntKind.bits]
end Go.AM
namespace Go.AM
open Go
set_option maxRecDepth 20000
end Go.AM
namespace Go.AM
open Go
set_option maxRecDepth 20000
end Go.AM
namespace Go.AM
open Go
set_option maxRecDepth 20000
end Go.AM
namespace Go.AM
open Go
set_option maxRecDepth 20000
end Go.AM
namespace Go.AM
open Go
set_option maxRecDepth 20000
def textOf (k:Key):List UInt8:=k.b.takeWhile (· != 0)
end Go.AM
namespace Go.AM
open Go
set_option maxRecDepth 20000
def padB (s:List UInt8):List UInt8:=s.take 16 ++ List.replicate (16 - s.length) 0
def padK (s:List UInt8):Key:=⟨padB s,by simp [padB]; omega⟩
def badT (s:List UInt8):Prop:=s=[]∨16 < s.length∨(0:UInt8)∈s
instance (s:List UInt8):Decidable (badT s):=inferInstanceAs (Decidable (_∨_))
end Go.AM
namespace Go.AM
open Go
theorem slc_nil {c:Nat} {k:IntKind} (hc:c≠0):sliceL (.sl c) (.s .nilS) (some (.s (.int k 0))) none none=some (.s .nilS):=by simp [sliceL,bound,hc]
theorem slc_nilh {c:Nat} {k:IntKind} (hc:c≠0):sliceL (.sl c) (.s .nilS) none (some (.s (.int k 0))) none=some (.s .nilS):=by simp [sliceL,bound,hc]
abbrev Rd:=Option (List UInt8)
end Go.AM
namespace Go.AM
open Go
set_option linter.unusedSectionVars false
variable {α:Type} [Inhabited α]
structure EK (f:α→AV) (c:Nat):Prop where
  len:∀x,(f x).cells.length=c
  pos:0 < c
  fit:∀x,(f x).fit=true
  look:∀x,(f x).cells.map AV.look=(f x).cells
  low:∀n x,AV.under.go n (f x).cells=true
def flat (f:α→AV) (d:Array α):List AV:=d.toList.flatMap fun x=>(f x).cells
section
variable {f:α→AV} {c:Nat}
theorem flatL_length (h:EK f c):∀(l:List α),(l.flatMap fun x=>(f x).cells).length=l.length * c
  | []=>by simp
  | x :: l=>by rw [List.flatMap_cons,List.length_append,h.len,flatL_length h l,List.length_cons,Nat.succ_mul,Nat.add_comm]
theorem flat_length (h:EK f c) (d:Array α):(flat f d).length=d.size * c:=by unfold flat; rw [flatL_length h]; simp
theorem flatL_drop (h:EK f c):∀(l:List α) (i:Nat),(l.flatMap fun x=>(f x).cells).drop (i * c)=(l.drop i).flatMap fun x=>(f x).cells
  | l,0=>by simp
  | [],i + 1=>by simp
  | x :: l,i + 1=>by
    rw [List.flatMap_cons,Nat.succ_mul,Nat.add_comm,List.drop_append,List.drop_of_length_le (by rw [h.len]; omega),h.len,List.nil_append,Nat.add_sub_cancel_left,flatL_drop h l i]
    rfl
theorem flatL_take (h:EK f c):∀(l:List α) (i:Nat),(l.flatMap fun x=>(f x).cells).take (i * c)=(l.take i).flatMap fun x=>(f x).cells
  | l,0=>by simp
  | [],i + 1=>by simp
  | x :: l,i + 1=>by
    rw [List.flatMap_cons,Nat.succ_mul,Nat.add_comm,List.take_append,List.take_of_length_le (by rw [h.len]; omega),h.len,Nat.add_sub_cancel_left,flatL_take h l i]
    rfl
theorem get_bang {d:Array α} {i:Nat} (h:i < d.size):d[i]! = d.toList[i]'(by simpa using h):=by simp [h]
theorem flat_get (h:EK f c) {d:Array α} {i:Nat} (hi:i < d.size):((flat f d).drop (i * c)).take c=(f d[i]!).cells:=by
  unfold flat
  have hl:i < d.toList.length:=by simpa using hi
  rw [flatL_drop h,List.drop_eq_getElem_cons hl,List.flatMap_cons,List.take_left' (h.len _),get_bang hi]
theorem flat_set (h:EK f c) {d:Array α} {i:Nat} (x:α) (hi:i < d.size):(flat f d).take (i * c) ++ (f x).cells ++ (flat f d).drop (i * c + c)=flat f (d.setIfInBounds i x):=by
  unfold flat
  have hl:i < d.toList.length:=by simpa using hi
  have e:i * c + c=(i + 1) * c:=by rw [Nat.succ_mul]
  rw [e,flatL_drop h,flatL_take h]
  have:(d.setIfInBounds i x).toList=d.toList.take i ++ x :: d.toList.drop (i + 1):=by
    rw [Array.toList_setIfInBounds,List.set_eq_take_append_cons_drop,if_pos hl]
  rw [this,List.flatMap_append,List.flatMap_cons,List.append_assoc]
theorem mul_le_of_lt {i n c:Nat} (h:i < n):i * c + c≤n * c:=by rw [←Nat.succ_mul]; exact Nat.mul_le_mul_right c h
theorem row_read1 (h:EK f 1) {S:List (List AV)} {H:List HObj} {n:Nat} {d:Array α} {i:Nat} (hS:S[n]? = some (flat f d)) (hi:i < d.size) (hag:∀x,(f x).cells=[f x]):load1L false (.ptr (.stk n) (0 + i * 1)) ⟨S,H⟩=some (f d[i]!,⟨S,H⟩):=by
  have h1:=flat_get h hi
  rw [hag,Nat.mul_one] at h1
  have hg:(flat f d)[i]? = some (f d[i]!):=by
    have:=congrArg List.head? h1
    rw [List.head?_take,if_neg (by omega),List.head?_drop] at this
    simpa using this
  have hlook:=h.look d[i]!
  rw [hag] at hlook
  simp only [List.map_cons,List.map_nil,List.cons.injEq,and_true] at hlook
  simp only [load1L,boxOf_stk,hS,Option.bind_some,Nat.zero_add,Nat.mul_one,hg,hlook]
theorem row_write (h:EK f c) {S:List (List AV)} {H:List HObj} {n:Nat} {d:Array α} {i:Nat} {x:α} (hS:S[n]? = some (flat f d)) (hi:i < d.size):storeL c (.ptr (.stk n) (0 + i * c)) (f x) ⟨S,H⟩=some ⟨S.set n (flat f (d.setIfInBounds i x)),H⟩:=by
  have hl:0 + i * c + (f x).cells.length≤(flat f d).length:=by rw [flat_length h,Nat.zero_add,h.len]; exact mul_le_of_lt hi
  have hp:=h.pos
  have hs:splice (flat f d) (0 + i * c) (f x).cells=flat f (d.setIfInBounds i x):=by
    rw [←flat_set h x hi]
    unfold splice
    split
    · rename_i v hv
      have hlen:=h.len x
      rw [hv] at hlen
      have hc1:c=1:=by simpa using hlen.symm
      subst hc1
      have:i < (flat f d).length:=by rw [flat_length h]; omega
      rw [Nat.zero_add,Nat.mul_one,List.set_eq_take_append_cons_drop,if_pos this,List.append_assoc,hv]; rfl
    · rw [Nat.zero_add,h.len]
  simp only [storeL,h.len,h.fit,writeCells,boxOf_stk,hS,Option.bind_some,mayHold]
  rw [h.len] at hl
  rw [if_pos ⟨trivial,by omega,trivial⟩,if_pos (by rw [Bool.and_eq_true]; exact ⟨decide_eq_true hl,h.low n x⟩),hs]
  rfl
end
def iA (x:Int):AV := .s (.int .i64 x)
theorem iA_EK:EK iA 1:=⟨fun x=>rfl,by omega,fun _=>rfl,fun x=>rfl,fun n x=>rfl⟩
instance:Inhabited Key:=⟨key0⟩
instance:Inhabited Wr:=⟨⟨key0,[],false⟩⟩
end Go.AM
namespace Go.AM
open Go
set_option maxRecDepth 20000
def y9a1 (c:Nat→FuncId):LCode:=(.seq (.sq [(zv 5 0),(zs 6 (.call (.f (c 0)) [(.t 5)])),(zv 7 6),(zt 8 7 (.mv false (.t 1))),(zt 9 7 (.call (.f (c 0)) [(.t 8)])),(zt 10 7 (.un .not (.t 9))),(zs 11 (.pick (.t 7) (.t 10) zF)),(zv 12 11),(zf 13 12 (.mv false (.t 0))),(zf 14 12 (.mv false (.t 1))),(zf 15 12 (.bin .lss .sc (.t 13) (.t 14))),(zs 16 (.pick (.t 12) zT (.t 15))),(zs 4 (.mv true (.t 16)))]) .ret)
def Uz47 (c:Nat→FuncId):=PLift.up (@unfC _ _ (y9a1.eq_1 c))
def Cz3c (c:Nat→FuncId):LFn:=⟨17,[.t 4],(.seq (.sq [(zs 4 (.mv true zF))]) (y9a1 c))⟩
def y9b1 (c:Nat→FuncId):LCode:=(.sq [(zv 31 7),(zs 32 (.bin .sub .sc (.t 31) (zi 1))),(zs 7 (.mv true (.t 32)))])
def y9b2 (c:Nat→FuncId):LCode:=(.seq (.block 3 (.tree (.rd (zv 33 0) 0 false (.rd (zv 34 7) 1 false (.rd (zv 35 0) 2 true (.rd (zv 36 7) 3 true (.rd (zs 37 (.bin .sub .sc (.t 36) (zi 1))) 4 true (.rd (zv 38 0) 5 false (.rd (zv 39 7) 6 false (.rd (zs 40 (.bin .sub .sc (.t 39) (zi 1))) 7 false (.rd (zs 41 (.ixa (.sl 1) (.t 38) (.t 40))) 8 false (.rd (zs 42 (.load1 false (.t 41))) 9 false (.rd (zv 43 0) 10 false (.rd (zv 44 7) 11 false (.rd (zs 45 (.ixa (.sl 1) (.t 43) (.t 44))) 12 false (.rd (zs 46 (.load1 false (.t 45))) 13 false (.rd (zs 47 (.ixa (.sl 1) (.t 33) (.t 34))) 14 false (.mv (zn (.store 1 (.t 47) (.t 42))) [0,1,5,6,7,8,9,10,11,12,13,14] (.rd (zs 48 (.ixa (.sl 1) (.t 35) (.t 37))) 16 false (.mv (zn (.store 1 (.t 48) (.t 46))) [0,1,2,3,4,5,6,7,8,9,10,11,12,13,14,15,16] .done .stop)) .stop)))))))))))))))))) (y9b1 c))
def y9b3 (c:Nat→FuncId):LCode:=(.seq (.seq (.tree (.rd (zv 16 7) 0 false (.rd (zv 17 1) 1 false (.rd (zs 18 (.bin .gtr .sc (.t 16) (.t 17))) 2 false (.rd (zv 19 18) 3 false (.rd (zt 20 19 (.mv false (.t 0))) 4 false (.rd (zt 21 19 (.mv false (.t 7))) 5 false (.rd (zt 22 19 (.ixa (.sl 1) (.t 20) (.t 21))) 6 false (.rd (zt 23 19 (.load1 false (.t 22))) 7 false (.rd (zt 24 19 (.mv false (.t 0))) 8 false (.rd (zt 25 19 (.mv false (.t 7))) 9 false (.rd (zt 26 19 (.bin .sub .sc (.t 25) (zi 1))) 10 false (.rd (zt 27 19 (.ixa (.sl 1) (.t 24) (.t 26))) 11 false (.rd (zt 28 19 (.load1 false (.t 27))) 12 false (.mv (zt 29 19 (.call (.f (c 0)) [(.t 23),(.t 28)])) [0,1,2,3,4,5,6,7,8,9,10,11,12] (.rd (zs 30 (.pick (.t 19) (.t 29) zF)) 14 false .done) .stop))))))))))))))) (.cond (.t 30) .skip (.exit 2))) (y9b2 c))
def y9b4 (c:Nat→FuncId):LCode:=(.block 2 (.loop (zm false [0,3,3,2,41]) (y9b3 c)))
def y9b5 (c:Nat→FuncId):LCode:=(.sq [(zv 13 6),(zs 14 (.bin .add .sc (.t 13) (zi 1))),(zs 6 (.mv true (.t 14)))])
def y9b6 (c:Nat→FuncId):LCode:=(.seq (.block 1 (.seq (.sq [(zv 15 6),(zs 7 (.mv true (.t 15)))]) (y9b4 c))) (y9b5 c))
def y9b7 (c:Nat→FuncId):LCode:=(.seq (.seq (.sq [(zv 10 6),(zv 11 2),(zs 12 (.bin .lss .sc (.t 10) (.t 11)))]) (.cond (.t 12) .skip (.exit 0))) (y9b6 c))
def y9b8 (c:Nat→FuncId):LCode:=(.block 0 (.loop (zm false [0,3,3,1,42]) (y9b7 c)))
def Uzl (c:Nat→FuncId):=PLift.up (zc (zc (zc (@unfC _ _ (y9b1.eq_1 c)) (@unfC _ _ (y9b2.eq_1 c))) (zc (@unfC _ _ (y9b3.eq_1 c)) (@unfC _ _ (y9b4.eq_1 c)))) (zc (zc (@unfC _ _ (y9b5.eq_1 c)) (@unfC _ _ (y9b6.eq_1 c))) (zc (@unfC _ _ (y9b7.eq_1 c)) (@unfC _ _ (y9b8.eq_1 c)))))
def Czv (c:Nat→FuncId):LFn:=⟨49,[],(.seq (.sq [(zv 8 1),(zs 9 (.bin .add .sc (.t 8) (zi 1))),(zs 6 (.mv true (.t 9)))]) (y9b8 c))⟩
def y9c1 (c:Nat→FuncId):LCode:=(.sq [(zv 37 9),(zs 38 (.bin .add .sc (.t 37) (zi 1))),(zs 9 (.mv true (.t 38)))])
def y9c2 (c:Nat→FuncId):LCode:=(.seq (.tree (.rd (zv 53 0) 0 false (.rd (zv 54 3) 1 false (.rd (zv 55 8) 2 false (.rd (zs 56 (.bin .add .sc (.t 54) (.t 55))) 3 false (.rd (zv 57 0) 4 true (.rd (zv 58 3) 5 true (.rd (zv 59 9) 6 true (.rd (zs 60 (.bin .add .sc (.t 58) (.t 59))) 7 true (.rd (zv 61 0) 8 false (.rd (zv 62 3) 9 false (.rd (zv 63 9) 10 false (.rd (zs 64 (.bin .add .sc (.t 62) (.t 63))) 11 false (.rd (zs 65 (.ixa (.sl 1) (.t 61) (.t 64))) 12 false (.rd (zs 66 (.load1 false (.t 65))) 13 false (.rd (zv 67 0) 14 false (.rd (zv 68 3) 15 false (.rd (zv 69 8) 16 false (.rd (zs 70 (.bin .add .sc (.t 68) (.t 69))) 17 false (.rd (zs 71 (.ixa (.sl 1) (.t 67) (.t 70))) 18 false (.rd (zs 72 (.load1 false (.t 71))) 19 false (.rd (zs 73 (.ixa (.sl 1) (.t 53) (.t 56))) 20 false (.mv (zn (.store 1 (.t 73) (.t 66))) [0,1,2,3,8,9,10,11,12,13,14,15,16,17,18,19,20] (.rd (zs 74 (.ixa (.sl 1) (.t 57) (.t 60))) 22 false (.mv (zn (.store 1 (.t 74) (.t 72))) [0,1,2,3,4,5,6,7,8,9,10,11,12,13,14,15,16,17,18,19,20,21,22] .done .stop)) .stop))))))))))))))))))))))) (.sq [(zv 75 9),(zs 8 (.mv true (.t 75)))]))
def y9c3 (c:Nat→FuncId):LCode:=(.seq (.seq (.tree (.rd (zv 39 0) 0 false (.rd (zv 40 3) 1 false (.rd (zv 41 8) 2 false (.rd (zs 42 (.bin .add .sc (.t 40) (.t 41))) 3 false (.rd (zs 43 (.ixa (.sl 1) (.t 39) (.t 42))) 4 false (.rd (zs 44 (.load1 false (.t 43))) 5 false (.rd (zv 45 0) 6 false (.rd (zv 46 3) 7 false (.rd (zv 47 9) 8 false (.rd (zs 48 (.bin .add .sc (.t 46) (.t 47))) 9 false (.rd (zs 49 (.ixa (.sl 1) (.t 45) (.t 48))) 10 false (.rd (zs 50 (.load1 false (.t 49))) 11 false (.mv (zs 51 (.call (.f (c 0)) [(.t 44),(.t 50)])) [0,1,2,3,4,5,6,7,8,9,10,11] (.rd (zs 52 (.un .not (.t 51))) 13 false .done) .stop)))))))))))))) (.cond (.t 52) .ret .skip)) (y9c2 c))
def y9c4 (c:Nat→FuncId):LCode:=(.seq (.seq (.tree (.rd (zv 17 9) 0 false (.rd (zs 18 (.bin .add .sc (.t 17) (zi 1))) 1 false (.rd (zv 19 2) 2 false (.rd (zs 20 (.bin .lss .sc (.t 18) (.t 19))) 3 false (.rd (zv 21 20) 4 false (.rd (zt 22 21 (.mv false (.t 0))) 5 false (.rd (zt 23 21 (.mv false (.t 3))) 6 false (.rd (zt 24 21 (.mv false (.t 9))) 7 false (.rd (zt 25 21 (.bin .add .sc (.t 23) (.t 24))) 8 false (.rd (zt 26 21 (.ixa (.sl 1) (.t 22) (.t 25))) 9 false (.rd (zt 27 21 (.load1 false (.t 26))) 10 false (.rd (zt 28 21 (.mv false (.t 0))) 11 false (.rd (zt 29 21 (.mv false (.t 3))) 12 false (.rd (zt 30 21 (.mv false (.t 9))) 13 false (.rd (zt 31 21 (.bin .add .sc (.t 29) (.t 30))) 14 false (.rd (zt 32 21 (.bin .add .sc (.t 31) (zi 1))) 15 false (.rd (zt 33 21 (.ixa (.sl 1) (.t 28) (.t 32))) 16 false (.rd (zt 34 21 (.load1 false (.t 33))) 17 false (.mv (zt 35 21 (.call (.f (c 0)) [(.t 27),(.t 34)])) [0,1,2,3,4,5,6,7,8,9,10,11,12,13,14,15,16,17] (.rd (zs 36 (.pick (.t 21) (.t 35) zF)) 19 false .done) .stop)))))))))))))))))))) (.cond (.t 36) (y9c1 c) .skip)) (y9c3 c))
def y9c5 (c:Nat→FuncId):LCode:=(.seq (.seq (.sq [(zv 14 9),(zv 15 2),(zs 16 (.bin .geq .sc (.t 14) (.t 15)))]) (.cond (.t 16) (.exit 0) .skip)) (y9c4 c))
def y9c6 (c:Nat→FuncId):LCode:=(.block 1 (.seq (.sq [(zv 11 8),(zs 12 (.bin .mul .sc (zi 2) (.t 11))),(zs 13 (.bin .add .sc (.t 12) (zi 1))),(zs 9 (.mv true (.t 13)))]) (y9c5 c)))
def y9c7 (c:Nat→FuncId):LCode:=(.block 0 (.loop (zm false [0,1,1,2,4,1,67]) (y9c6 c)))
def Uzh (c:Nat→FuncId):=PLift.up (zc (zc (@unfC _ _ (y9c1.eq_1 c)) (zc (@unfC _ _ (y9c2.eq_1 c)) (@unfC _ _ (y9c3.eq_1 c)))) (zc (zc (@unfC _ _ (y9c4.eq_1 c)) (@unfC _ _ (y9c5.eq_1 c))) (zc (@unfC _ _ (y9c6.eq_1 c)) (@unfC _ _ (y9c7.eq_1 c)))))
def Cz1t (c:Nat→FuncId):LFn:=⟨76,[],(.seq (.sq [(zv 10 1),(zs 8 (.mv true (.t 10)))]) (y9c7 c))⟩
def y9d1 (c:Nat→FuncId):LCode:=(.sq [(zv 20 9),(zs 21 (.bin .sub .sc (.t 20) (zi 1))),(zs 9 (.mv true (.t 21)))])
def y9d2 (c:Nat→FuncId):LCode:=(.seq (.block 1 (.sq [(zv 22 0),(zv 23 9),(zv 24 8),(zv 25 6),(zs 26 (.call (.f (c 0)) [(.t 22),(.t 23),(.t 24),(.t 25)]))])) (y9d1 c))
def y9d3 (c:Nat→FuncId):LCode:=(.seq (.seq (.sq [(zv 18 9),(zs 19 (.bin .geq .sc (.t 18) (zi 0)))]) (.cond (.t 19) .skip (.exit 0))) (y9d2 c))
def y9d4 (c:Nat→FuncId):LCode:=(.block 0 (.loop (zm false [0,1,5,4,46]) (y9d3 c)))
def y9d5 (c:Nat→FuncId):LCode:=(.sq [(zv 51 0),(zv 52 7),(zv 53 10),(zv 54 6),(zs 55 (.call (.f (c 0)) [(.t 51),(.t 52),(.t 53),(.t 54)]))])
def y9d6 (c:Nat→FuncId):LCode:=(.sq [(zv 31 10),(zs 32 (.bin .sub .sc (.t 31) (zi 1))),(zs 10 (.mv true (.t 32)))])
def y9d7 (c:Nat→FuncId):LCode:=(.seq (.block 3 (.seq (.tree (.rd (zv 33 0) 0 false (.rd (zv 34 6) 1 false (.rd (zv 35 0) 2 true (.rd (zv 36 6) 3 true (.rd (zv 37 10) 4 true (.rd (zs 38 (.bin .add .sc (.t 36) (.t 37))) 5 true (.rd (zv 39 0) 6 false (.rd (zv 40 6) 7 false (.rd (zv 41 10) 8 false (.rd (zs 42 (.bin .add .sc (.t 40) (.t 41))) 9 false (.rd (zs 43 (.ixa (.sl 1) (.t 39) (.t 42))) 10 false (.rd (zs 44 (.load1 false (.t 43))) 11 false (.rd (zv 45 0) 12 false (.rd (zv 46 6) 13 false (.rd (zs 47 (.ixa (.sl 1) (.t 45) (.t 46))) 14 false (.rd (zs 48 (.load1 false (.t 47))) 15 false (.rd (zs 49 (.ixa (.sl 1) (.t 33) (.t 34))) 16 false (.mv (zn (.store 1 (.t 49) (.t 44))) [0,1,6,7,8,9,10,11,12,13,14,15,16] (.rd (zs 50 (.ixa (.sl 1) (.t 35) (.t 38))) 18 false (.mv (zn (.store 1 (.t 50) (.t 48))) [0,1,2,3,4,5,6,7,8,9,10,11,12,13,14,15,16,17,18] .done .stop)) .stop))))))))))))))))))) (y9d5 c))) (y9d6 c))
def y9d8 (c:Nat→FuncId):LCode:=(.seq (.seq (.sq [(zv 29 10),(zs 30 (.bin .geq .sc (.t 29) (zi 0)))]) (.cond (.t 30) .skip (.exit 2))) (y9d7 c))
def y9d9 (c:Nat→FuncId):LCode:=(.block 2 (.loop (zm false [0,1,5,2,2,1,45]) (y9d8 c)))
def y9d10 (c:Nat→FuncId):LCode:=(.seq (.sq [(zv 27 8),(zs 28 (.bin .sub .sc (.t 27) (zi 1))),(zs 10 (.mv true (.t 28)))]) (y9d9 c))
def y9d11 (c:Nat→FuncId):LCode:=(.seq (.seq (.sq [(zv 15 8),(zs 16 (.bin .sub .sc (.t 15) (zi 1))),(zs 17 (.bin .quo .sc (.t 16) (zi 2))),(zs 9 (.mv true (.t 17)))]) (y9d4 c)) (y9d10 c))
def y9d12 (c:Nat→FuncId):LCode:=(.seq (.sq [(zv 12 2),(zv 13 1),(zs 14 (.bin .sub .sc (.t 12) (.t 13))),(zs 8 (.mv true (.t 14)))]) (y9d11 c))
def Uzx (c:Nat→FuncId):=PLift.up (zc (zc (zc (@unfC _ _ (y9d1.eq_1 c)) (zc (@unfC _ _ (y9d2.eq_1 c)) (@unfC _ _ (y9d3.eq_1 c)))) (zc (@unfC _ _ (y9d4.eq_1 c)) (zc (@unfC _ _ (y9d5.eq_1 c)) (@unfC _ _ (y9d6.eq_1 c))))) (zc (zc (@unfC _ _ (y9d7.eq_1 c)) (zc (@unfC _ _ (y9d8.eq_1 c)) (@unfC _ _ (y9d9.eq_1 c)))) (zc (@unfC _ _ (y9d10.eq_1 c)) (zc (@unfC _ _ (y9d11.eq_1 c)) (@unfC _ _ (y9d12.eq_1 c))))))
def Cz1u (c:Nat→FuncId):LFn:=⟨56,[],(.seq (.sq [(zv 11 1),(zs 6 (.mv true (.t 11)))]) (.seq (.sq [(zs 7 (.mv true (zi 0)))]) (y9d12 c)))⟩
def y9f1:LCode:=(.seq (.sq [(zv 5 0),(zs 6 (.bin .shr .sc (.t 5) (.c (.int .u64 32)))),(zs 0 (.mv true (.t 6)))]) (.sq [(zs 2 (.mv true (zi 32)))]))
def y9f2:LCode:=(.sq [(zv 11 2),(zs 12 (.bin .add .sc (.t 11) (zi 16))),(zs 2 (.mv true (.t 12)))])
def y9f3:LCode:=(.seq (.sq [(zv 9 0),(zs 10 (.bin .shr .sc (.t 9) (.c (.int .u64 16)))),(zs 0 (.mv true (.t 10)))]) y9f2)
def y9f4:LCode:=(.sq [(zv 17 2),(zs 18 (.bin .add .sc (.t 17) (zi 8))),(zs 2 (.mv true (.t 18)))])
def y9f5:LCode:=(.seq (.sq [(zv 15 0),(zs 16 (.bin .shr .sc (.t 15) (.c (.int .u64 8)))),(zs 0 (.mv true (.t 16)))]) y9f4)
def y9f6:LCode:=(.seq (.sq [(zv 19 2),(zv 20 0),(zs 21 (.conv (.int .u8) (.t 20))),(zs 22 (.ixs (.c (.str [0,1,2,2,3,3,3,3,4,4,4,4,4,4,4,4,5,5,5,5,5,5,5,5,5,5,5,5,5,5,5,5,6,6,6,6,6,6,6,6,6,6,6,6,6,6,6,6,6,6,6,6,6,6,6,6,6,6,6,6,6,6,6,6,7,7,7,7,7,7,7,7,7,7,7,7,7,7,7,7,7,7,7,7,7,7,7,7,7,7,7,7,7,7,7,7,7,7,7,7,7,7,7,7,7,7,7,7,7,7,7,7,7,7,7,7,7,7,7,7,7,7,7,7,7,7,7,7,8,8,8,8,8,8,8,8,8,8,8,8,8,8,8,8,8,8,8,8,8,8,8,8,8,8,8,8,8,8,8,8,8,8,8,8,8,8,8,8,8,8,8,8,8,8,8,8,8,8,8,8,8,8,8,8,8,8,8,8,8,8,8,8,8,8,8,8,8,8,8,8,8,8,8,8,8,8,8,8,8,8,8,8,8,8,8,8,8,8,8,8,8,8,8,8,8,8,8,8,8,8,8,8,8,8,8,8,8,8,8,8,8,8,8,8,8,8,8,8,8,8,8,8,8,8,8,8])) (.t 21))),(zs 23 (.conv (.int .i64) (.t 22))),(zs 24 (.bin .add .sc (.t 19) (.t 23))),(zs 2 (.mv true (.t 24)))]) .ret)
def y9f7:LCode:=(.seq (.seq (.sq [(zv 13 0),(zs 14 (.bin .geq .sc (.t 13) (.c (.int .u64 256))))]) (.cond (.t 14) y9f5 .skip)) y9f6)
def y9f8:LCode:=(.seq (.seq (.sq [(zv 7 0),(zs 8 (.bin .geq .sc (.t 7) (.c (.int .u64 65536))))]) (.cond (.t 8) y9f3 .skip)) y9f7)
def y9f9:LCode:=(.seq (.seq (.sq [(zv 3 0),(zs 4 (.bin .geq .sc (.t 3) (.c (.int .u64 4294967296))))]) (.cond (.t 4) y9f1 .skip)) y9f8)
def Uz1h:=PLift.up (zc (zc (zc (@unfC _ _ (y9f1.eq_1)) (@unfC _ _ (y9f2.eq_1))) (zc (@unfC _ _ (y9f3.eq_1)) (@unfC _ _ (y9f4.eq_1)))) (zc (zc (@unfC _ _ (y9f5.eq_1)) (@unfC _ _ (y9f6.eq_1))) (zc (@unfC _ _ (y9f7.eq_1)) (zc (@unfC _ _ (y9f8.eq_1)) (@unfC _ _ (y9f9.eq_1))))))
def Cz19:LFn:=⟨25,[.t 2],(.seq (.sq [(zs 2 (.mv true (zi 0)))]) y9f9)⟩
def y9g1 (c:Nat→FuncId):LCode:=(.seq (.sq [(zv 3 0),(zs 4 (.conv (.int .u32) (.t 3))),(zs 5 (.call (.f (c 0)) [(.t 4)])),(zs 2 (.mv true (.t 5)))]) .ret)
def y9g2 (c:Nat→FuncId):LCode:=(.seq (.sq [(zv 6 0),(zs 7 (.call (.f (c 1)) [(.t 6)])),(zs 2 (.mv true (.t 7)))]) .ret)
def Uz4j (c:Nat→FuncId):=PLift.up (zc (@unfC _ _ (y9g1.eq_1 c)) (@unfC _ _ (y9g2.eq_1 c)))
def Cz3i (c:Nat→FuncId):LFn:=⟨8,[.t 2],(.seq (.sq [(zs 2 (.mv true (zi 0)))]) (.seq (.cond zF (y9g1 c) .skip) (y9g2 c)))⟩
def y9h1 (c:Nat→FuncId):LCode:=(.seq (.sq [(zv 3 0),(zs 4 (.conv (.int .u64) (.t 3))),(zs 5 (.call (.f (c 0)) [(.t 4)])),(zs 6 (.bin .shl .sc (.c (.int .u64 1)) (.t 5))),(zs 2 (.mv true (.t 6)))]) .ret)
def Uz2x (c:Nat→FuncId):=PLift.up (@unfC _ _ (y9h1.eq_1 c))
def Cz2i (c:Nat→FuncId):LFn:=⟨7,[.t 2],(.seq (.sq [(zs 2 (.mv true (.c (.int .u64 0))))]) (y9h1 c))⟩
def y9i1:LCode:=(.seq (.sq [(zv 30 0),(zs 31 (.nilc (.t 30))),(zs 32 (.load1 false (.t 31))),(zs 2 (.mv true (.t 32)))]) .ret)
def y9i2:LCode:=(.seq (.tree (.rd (zv 21 0) 0 false (.rd (zs 22 (.nilc (.t 21))) 1 false (.rd (zs 23 (.load1 false (.t 22))) 2 false (.rd (zv 24 0) 3 false (.rd (zs 25 (.nilc (.t 24))) 4 false (.rd (zs 26 (.load1 false (.t 25))) 5 false (.rd (zs 27 (.bin .shl .sc (.t 26) (.c (.int .u64 17)))) 6 false (.rd (zs 28 (.bin .xor .sc (.t 23) (.t 27))) 7 false (.rd (zs 29 (.nilc (.t 21))) 8 false (.mv (zn (.store 1 (.t 29) (.t 28))) [0,1,2,3,4,5,6,7,8] .done .stop))))))))))) y9i1)
def y9i3:LCode:=(.seq (.tree (.rd (zv 12 0) 0 false (.rd (zs 13 (.nilc (.t 12))) 1 false (.rd (zs 14 (.load1 false (.t 13))) 2 false (.rd (zv 15 0) 3 false (.rd (zs 16 (.nilc (.t 15))) 4 false (.rd (zs 17 (.load1 false (.t 16))) 5 false (.rd (zs 18 (.bin .shr .sc (.t 17) (.c (.int .u64 7)))) 6 false (.rd (zs 19 (.bin .xor .sc (.t 14) (.t 18))) 7 false (.rd (zs 20 (.nilc (.t 12))) 8 false (.mv (zn (.store 1 (.t 20) (.t 19))) [0,1,2,3,4,5,6,7,8] .done .stop))))))))))) y9i2)
def y9i4:LCode:=(.seq (.tree (.rd (zv 3 0) 0 false (.rd (zs 4 (.nilc (.t 3))) 1 false (.rd (zs 5 (.load1 false (.t 4))) 2 false (.rd (zv 6 0) 3 false (.rd (zs 7 (.nilc (.t 6))) 4 false (.rd (zs 8 (.load1 false (.t 7))) 5 false (.rd (zs 9 (.bin .shl .sc (.t 8) (.c (.int .u64 13)))) 6 false (.rd (zs 10 (.bin .xor .sc (.t 5) (.t 9))) 7 false (.rd (zs 11 (.nilc (.t 3))) 8 false (.mv (zn (.store 1 (.t 11) (.t 10))) [0,1,2,3,4,5,6,7,8] .done .stop))))))))))) y9i3)
def Uz41:=PLift.up (zc (zc (@unfC _ _ (y9i1.eq_1)) (@unfC _ _ (y9i2.eq_1))) (zc (@unfC _ _ (y9i3.eq_1)) (@unfC _ _ (y9i4.eq_1))))
def Cz2l:LFn:=⟨33,[.t 2],(.seq (.sq [(zs 2 (.mv true (.c (.int .u64 0))))]) y9i4)⟩
def y9j1 (c:Nat→FuncId):LCode:=(.sq [(zv 44 10),(zv 45 6),(zs 46 (.bin .sub .sc (.t 44) (.t 45))),(zs 10 (.mv true (.t 46)))])
def y9j2 (c:Nat→FuncId):LCode:=(.tree (.rd (zv 47 0) 0 false (.rd (zv 48 9) 1 false (.rd (zv 49 0) 2 true (.rd (zv 50 1) 3 true (.rd (zv 51 10) 4 true (.rd (zs 52 (.bin .add .sc (.t 50) (.t 51))) 5 true (.rd (zv 53 0) 6 false (.rd (zv 54 1) 7 false (.rd (zv 55 10) 8 false (.rd (zs 56 (.bin .add .sc (.t 54) (.t 55))) 9 false (.rd (zs 57 (.ixa (.sl 1) (.t 53) (.t 56))) 10 false (.rd (zs 58 (.load1 false (.t 57))) 11 false (.rd (zv 59 0) 12 false (.rd (zv 60 9) 13 false (.rd (zs 61 (.ixa (.sl 1) (.t 59) (.t 60))) 14 false (.rd (zs 62 (.load1 false (.t 61))) 15 false (.rd (zs 63 (.ixa (.sl 1) (.t 47) (.t 48))) 16 false (.mv (zn (.store 1 (.t 63) (.t 58))) [0,1,6,7,8,9,10,11,12,13,14,15,16] (.rd (zs 64 (.ixa (.sl 1) (.t 49) (.t 52))) 18 false (.mv (zn (.store 1 (.t 64) (.t 62))) [0,1,2,3,4,5,6,7,8,9,10,11,12,13,14,15,16,17,18] .done .stop)) .stop)))))))))))))))))))
def y9j3 (c:Nat→FuncId):LCode:=(.seq (.seq (.sq [(zv 41 10),(zv 42 6),(zs 43 (.bin .geq .sc (.t 41) (.t 42)))]) (.cond (.t 43) (y9j1 c) .skip)) (y9j2 c))
def y9j4 (c:Nat→FuncId):LCode:=(.sq [(zv 34 9),(zs 35 (.bin .add .sc (.t 34) (zi 1))),(zs 9 (.mv true (.t 35)))])
def y9j5 (c:Nat→FuncId):LCode:=(.seq (.block 1 (.seq (.sq [(zs 36 (.call (.f (c 1)) [(.t 7)])),(zv 37 8),(zs 38 (.bin .sub .sc (.t 37) (.c (.int .u64 1)))),(zs 39 (.bin .and .sc (.t 36) (.t 38))),(zs 40 (.conv (.int .i64) (.t 39))),(zs 10 (.mv true (.t 40)))]) (y9j3 c))) (y9j4 c))
def y9j6 (c:Nat→FuncId):LCode:=(.seq (.seq (.sq [(zv 26 9),(zv 27 1),(zv 28 6),(zs 29 (.bin .quo .sc (.t 28) (zi 4))),(zs 30 (.bin .mul .sc (.t 29) (zi 2))),(zs 31 (.bin .add .sc (.t 27) (.t 30))),(zs 32 (.bin .add .sc (.t 31) (zi 1))),(zs 33 (.bin .leq .sc (.t 26) (.t 32)))]) (.cond (.t 33) .skip (.exit 0))) (y9j5 c))
def y9j7 (c:Nat→FuncId):LCode:=(.block 0 (.loop (zm false [0,2,4,4,55]) (y9j6 c)))
def y9j8 (c:Nat→FuncId):LCode:=(.seq (.sq [(zv 20 1),(zv 21 6),(zs 22 (.bin .quo .sc (.t 21) (zi 4))),(zs 23 (.bin .mul .sc (.t 22) (zi 2))),(zs 24 (.bin .add .sc (.t 20) (.t 23))),(zs 25 (.bin .sub .sc (.t 24) (zi 1))),(zs 9 (.mv true (.t 25)))]) (y9j7 c))
def y9j9 (c:Nat→FuncId):LCode:=(.seq (.sq [(zv 18 6),(zs 19 (.call (.f (c 0)) [(.t 18)])),(zs 8 (.mv true (.t 19)))]) (y9j8 c))
def y9j10 (c:Nat→FuncId):LCode:=(.seq (.sq [(zv 16 6),(zs 17 (.conv (.int .u64) (.t 16))),(zs 7 (.alloc false [(.s (.int .u64 0))])),(zn (.store 1 (.t 7) (.t 17)))]) (y9j9 c))
def y9j11 (c:Nat→FuncId):LCode:=(.seq (.sq [(zv 14 6),(zs 15 (.bin .geq .sc (.t 14) (zi 8)))]) (.cond (.t 15) (y9j10 c) .skip))
def Uzp (c:Nat→FuncId):=PLift.up (zc (zc (zc (@unfC _ _ (y9j1.eq_1 c)) (@unfC _ _ (y9j2.eq_1 c))) (zc (@unfC _ _ (y9j3.eq_1 c)) (zc (@unfC _ _ (y9j4.eq_1 c)) (@unfC _ _ (y9j5.eq_1 c))))) (zc (zc (@unfC _ _ (y9j6.eq_1 c)) (zc (@unfC _ _ (y9j7.eq_1 c)) (@unfC _ _ (y9j8.eq_1 c)))) (zc (@unfC _ _ (y9j9.eq_1 c)) (zc (@unfC _ _ (y9j10.eq_1 c)) (@unfC _ _ (y9j11.eq_1 c))))))
def Cz16 (c:Nat→FuncId):LFn:=⟨65,[],(.seq (.sq [(zv 11 2),(zv 12 1),(zs 13 (.bin .sub .sc (.t 11) (.t 12))),(zs 6 (.mv true (.t 13)))]) (y9j11 c))⟩
def y9k1 (c:Nat→FuncId):LCode:=(.seq (.sq [(zv 24 2),(zv 25 1),(zs 8 (.mv true (.t 24))),(zs 9 (.mv true (.t 25)))]) .ret)
def y9k2 (c:Nat→FuncId):LCode:=(.seq (.sq [(zv 19 3),(zs 20 (.nilc (.t 19))),(zs 21 (.load1 false (.t 20))),(zs 22 (.bin .add .sc (.t 21) (zi 1))),(zs 23 (.nilc (.t 19))),(zn (.store 1 (.t 23) (.t 22)))]) (y9k1 c))
def y9k3 (c:Nat→FuncId):LCode:=(.seq (.sq [(zv 26 1),(zv 27 2),(zs 8 (.mv true (.t 26))),(zs 9 (.mv true (.t 27)))]) .ret)
def y9k4 (c:Nat→FuncId):LCode:=(.seq (.seq (.tree (.rd (zv 10 0) 0 false (.rd (zv 11 2) 1 false (.rd (zs 12 (.ixa (.sl 1) (.t 10) (.t 11))) 2 false (.rd (zs 13 (.load1 false (.t 12))) 3 false (.rd (zv 14 0) 4 false (.rd (zv 15 1) 5 false (.rd (zs 16 (.ixa (.sl 1) (.t 14) (.t 15))) 6 false (.rd (zs 17 (.load1 false (.t 16))) 7 false (.mv (zs 18 (.call (.f (c 0)) [(.t 13),(.t 17)])) [0,1,2,3,4,5,6,7] .done .stop)))))))))) (.cond (.t 18) (y9k2 c) .skip)) (y9k3 c))
def Uz23 (c:Nat→FuncId):=PLift.up (zc (zc (@unfC _ _ (y9k1.eq_1 c)) (@unfC _ _ (y9k2.eq_1 c))) (zc (@unfC _ _ (y9k3.eq_1 c)) (@unfC _ _ (y9k4.eq_1 c))))
def Cz24 (c:Nat→FuncId):LFn:=⟨28,[.t 8,.t 9],(.seq (.sq [(zs 8 (.mv true (zi 0))),(zs 9 (.mv true (zi 0)))]) (y9k4 c))⟩
def y9l1 (c:Nat→FuncId):LCode:=(.seq (.sq [(zs 28 (.mv true (.t 0))),(zv 29 1),(zv 30 2),(zv 31 4),(zs 32 (.call (.f (c 0)) [(.t 28),(.t 29),(.t 30),(.t 31)])),(zv 27 32),(zs 33 (.ext (.t 27) 0)),(zs 34 (.ext (.t 27) 1)),(zs 1 (.mv true (.t 33))),(zs 2 (.mv true (.t 34)))]) (.seq (.sq [(zv 35 2),(zs 10 (.mv true (.t 35)))]) .ret))
def y9l2 (c:Nat→FuncId):LCode:=(.seq (.sq [(zv 20 0),(zv 21 2),(zv 22 3),(zv 23 4),(zs 24 (.call (.f (c 0)) [(.t 20),(.t 21),(.t 22),(.t 23)])),(zv 19 24),(zs 25 (.ext (.t 19) 0)),(zs 26 (.ext (.t 19) 1)),(zs 2 (.mv true (.t 25))),(zs 3 (.mv true (.t 26)))]) (y9l1 c))
def y9l3 (c:Nat→FuncId):LCode:=(.seq (.sq [(zv 12 0),(zv 13 1),(zv 14 2),(zv 15 4),(zs 16 (.call (.f (c 0)) [(.t 12),(.t 13),(.t 14),(.t 15)])),(zv 11 16),(zs 17 (.ext (.t 11) 0)),(zs 18 (.ext (.t 11) 1)),(zs 1 (.mv true (.t 17))),(zs 2 (.mv true (.t 18)))]) (y9l2 c))
def Uz1m (c:Nat→FuncId):=PLift.up (zc (@unfC _ _ (y9l1.eq_1 c)) (zc (@unfC _ _ (y9l2.eq_1 c)) (@unfC _ _ (y9l3.eq_1 c))))
def Cz25 (c:Nat→FuncId):LFn:=⟨36,[.t 10],(.seq (.sq [(zs 10 (.mv true (zi 0)))]) (y9l3 c))⟩
def y9m1 (c:Nat→FuncId):LCode:=(.seq (.sq [(zs 7 (.mv true (.t 0))),(zv 8 1),(zs 9 (.bin .sub .sc (.t 8) (zi 1))),(zv 10 1),(zv 11 1),(zs 12 (.bin .add .sc (.t 11) (zi 1))),(zv 13 2),(zs 14 (.call (.f (c 0)) [(.t 7),(.t 9),(.t 10),(.t 12),(.t 13)])),(zs 6 (.mv true (.t 14)))]) .ret)
def Uz1z (c:Nat→FuncId):=PLift.up (@unfC _ _ (y9m1.eq_1 c))
def Cz1f (c:Nat→FuncId):LFn:=⟨15,[.t 6],(.seq (.sq [(zs 6 (.mv true (zi 0)))]) (y9m1 c))⟩
def y9n1 (c:Nat→FuncId):LCode:=(.sq [(zv 41 0),(zv 42 12),(zs 43 (.call (.f (c 0)) [(.t 41),(.t 42),(.t 9)])),(zs 12 (.mv true (.t 43)))])
def y9n2 (c:Nat→FuncId):LCode:=(.seq (.sq [(zv 38 0),(zv 39 11),(zs 40 (.call (.f (c 0)) [(.t 38),(.t 39),(.t 9)])),(zs 11 (.mv true (.t 40)))]) (y9n1 c))
def y9n3 (c:Nat→FuncId):LCode:=(.seq (.sq [(zv 35 0),(zv 36 10),(zs 37 (.call (.f (c 0)) [(.t 35),(.t 36),(.t 9)])),(zs 10 (.mv true (.t 37)))]) (y9n2 c))
def y9n4 (c:Nat→FuncId):LCode:=(.sq [(zs 44 (.mv true (.t 0))),(zv 45 10),(zv 46 11),(zv 47 12),(zs 48 (.call (.f (c 1)) [(.t 44),(.t 45),(.t 46),(.t 47),(.t 9)])),(zs 11 (.mv true (.t 48)))])
def y9n5 (c:Nat→FuncId):LCode:=(.seq (.seq (.sq [(zv 33 8),(zs 34 (.bin .geq .sc (.t 33) (zi 50)))]) (.cond (.t 34) (y9n3 c) .skip)) (y9n4 c))
def y9n6 (c:Nat→FuncId):LCode:=(.seq (.sq [(zv 53 11),(zs 6 (.mv true (.t 53))),(zs 7 (.mv true (zi 1)))]) .ret)
def y9n7 (c:Nat→FuncId):LCode:=(.seq (.sq [(zv 56 11),(zs 6 (.mv true (.t 56))),(zs 7 (.mv true (zi 2)))]) .ret)
def y9n8 (c:Nat→FuncId):LCode:=(.seq (.sq [(zv 50 11),(zs 6 (.mv true (.t 50))),(zs 7 (.mv true (zi 0)))]) .ret)
def y9n9 (c:Nat→FuncId):LCode:=(.seq (.sq [(zs 55 (.bin .eql .sc (.t 49) (zi 12))),(zs 54 (.mv true (.t 55)))]) (.cond (.t 54) (y9n7 c) (y9n8 c)))
def y9n10 (c:Nat→FuncId):LCode:=(.block 0 (.seq (.sq [(zs 52 (.bin .eql .sc (.t 49) (zi 0))),(zs 51 (.mv true (.t 52)))]) (.cond (.t 51) (y9n6 c) (y9n9 c))))
def y9n11 (c:Nat→FuncId):LCode:=(.seq (.seq (.sq [(zv 31 8),(zs 32 (.bin .geq .sc (.t 31) (zi 8)))]) (.cond (.t 32) (y9n5 c) .skip)) (.seq (.sq [(zs 49 (.load1 false (.t 9)))]) (y9n10 c)))
def y9n12 (c:Nat→FuncId):LCode:=(.seq (.sq [(zv 26 1),(zv 27 8),(zs 28 (.bin .quo .sc (.t 27) (zi 4))),(zs 29 (.bin .mul .sc (.t 28) (zi 3))),(zs 30 (.bin .add .sc (.t 26) (.t 29))),(zs 12 (.mv true (.t 30)))]) (y9n11 c))
def y9n13 (c:Nat→FuncId):LCode:=(.seq (.sq [(zv 21 1),(zv 22 8),(zs 23 (.bin .quo .sc (.t 22) (zi 4))),(zs 24 (.bin .mul .sc (.t 23) (zi 2))),(zs 25 (.bin .add .sc (.t 21) (.t 24))),(zs 11 (.mv true (.t 25)))]) (y9n12 c))
def y9n14 (c:Nat→FuncId):LCode:=(.seq (.sq [(zv 16 1),(zv 17 8),(zs 18 (.bin .quo .sc (.t 17) (zi 4))),(zs 19 (.bin .mul .sc (.t 18) (zi 1))),(zs 20 (.bin .add .sc (.t 16) (.t 19))),(zs 10 (.mv true (.t 20)))]) (y9n13 c))
def y9n15 (c:Nat→FuncId):LCode:=(.seq (.sq [(zv 13 2),(zv 14 1),(zs 15 (.bin .sub .sc (.t 13) (.t 14))),(zs 8 (.mv true (.t 15)))]) (.seq (.sq [(zs 9 (.alloc false [(.s (.int .i64 0))]))]) (y9n14 c)))
def Uze (c:Nat→FuncId):=PLift.up (zc (zc (zc (@unfC _ _ (y9n1.eq_1 c)) (zc (@unfC _ _ (y9n2.eq_1 c)) (@unfC _ _ (y9n3.eq_1 c)))) (zc (zc (@unfC _ _ (y9n4.eq_1 c)) (@unfC _ _ (y9n5.eq_1 c))) (zc (@unfC _ _ (y9n6.eq_1 c)) (@unfC _ _ (y9n7.eq_1 c))))) (zc (zc (zc (@unfC _ _ (y9n8.eq_1 c)) (@unfC _ _ (y9n9.eq_1 c))) (zc (@unfC _ _ (y9n10.eq_1 c)) (@unfC _ _ (y9n11.eq_1 c)))) (zc (zc (@unfC _ _ (y9n12.eq_1 c)) (@unfC _ _ (y9n13.eq_1 c))) (zc (@unfC _ _ (y9n14.eq_1 c)) (@unfC _ _ (y9n15.eq_1 c))))))
def Cz12 (c:Nat→FuncId):LFn:=⟨57,[.t 6,.t 7],(.seq (.sq [(zs 6 (.mv true (zi 0))),(zs 7 (.mv true (zi 0)))]) (y9n15 c))⟩
def y9o1:LCode:=(.sq [(zv 30 7),(zs 31 (.bin .sub .sc (.t 30) (zi 1))),(zs 7 (.mv true (.t 31)))])
def y9o2:LCode:=(.seq (.sq [(zv 28 6),(zs 29 (.bin .add .sc (.t 28) (zi 1))),(zs 6 (.mv true (.t 29)))]) y9o1)
def y9o3:LCode:=(.block 1 (.seq (.tree (.rd (zv 14 0) 0 false (.rd (zv 15 6) 1 false (.rd (zv 16 0) 2 true (.rd (zv 17 7) 3 true (.rd (zv 18 0) 4 false (.rd (zv 19 7) 5 false (.rd (zs 20 (.ixa (.sl 1) (.t 18) (.t 19))) 6 false (.rd (zs 21 (.load1 false (.t 20))) 7 false (.rd (zv 22 0) 8 false (.rd (zv 23 6) 9 false (.rd (zs 24 (.ixa (.sl 1) (.t 22) (.t 23))) 10 false (.rd (zs 25 (.load1 false (.t 24))) 11 false (.rd (zs 26 (.ixa (.sl 1) (.t 14) (.t 15))) 12 false (.mv (zn (.store 1 (.t 26) (.t 21))) [0,1,4,5,6,7,8,9,10,11,12] (.rd (zs 27 (.ixa (.sl 1) (.t 16) (.t 17))) 14 false (.mv (zn (.store 1 (.t 27) (.t 25))) [0,1,2,3,4,5,6,7,8,9,10,11,12,13,14] .done .stop)) .stop))))))))))))))) y9o2))
def y9o4:LCode:=(.seq (.seq (.sq [(zv 11 6),(zv 12 7),(zs 13 (.bin .lss .sc (.t 11) (.t 12)))]) (.cond (.t 13) .skip (.exit 0))) y9o3)
def y9o5:LCode:=(.block 0 (.loop (zm false [0,1,5,2,24]) y9o4))
def y9o6:LCode:=(.seq (.sq [(zv 9 2),(zs 10 (.bin .sub .sc (.t 9) (zi 1))),(zs 7 (.mv true (.t 10)))]) y9o5)
def Uz1i:=PLift.up (zc (zc (@unfC _ _ (y9o1.eq_1)) (zc (@unfC _ _ (y9o2.eq_1)) (@unfC _ _ (y9o3.eq_1)))) (zc (@unfC _ _ (y9o4.eq_1)) (zc (@unfC _ _ (y9o5.eq_1)) (@unfC _ _ (y9o6.eq_1)))))
def Cz1j:LFn:=⟨32,[],(.seq (.sq [(zv 8 1),(zs 6 (.mv true (.t 8)))]) y9o6)⟩
def y9p1 (c:Nat→FuncId):LCode:=(.block 3 (.sq [(zv 33 7),(zs 34 (.bin .add .sc (.t 33) (zi 1))),(zs 7 (.mv true (.t 34)))]))
def y9p2 (c:Nat→FuncId):LCode:=(.seq (.seq (.tree (.rd (zv 17 7) 0 false (.rd (zv 18 2) 1 false (.rd (zs 19 (.bin .lss .sc (.t 17) (.t 18))) 2 false (.rd (zv 20 19) 3 false (.rd (zt 21 20 (.mv false (.t 0))) 4 false (.rd (zt 22 20 (.mv false (.t 7))) 5 false (.rd (zt 23 20 (.ixa (.sl 1) (.t 21) (.t 22))) 6 false (.rd (zt 24 20 (.load1 false (.t 23))) 7 false (.rd (zt 25 20 (.mv false (.t 0))) 8 false (.rd (zt 26 20 (.mv false (.t 7))) 9 false (.rd (zt 27 20 (.bin .sub .sc (.t 26) (zi 1))) 10 false (.rd (zt 28 20 (.ixa (.sl 1) (.t 25) (.t 27))) 11 false (.rd (zt 29 20 (.load1 false (.t 28))) 12 false (.mv (zt 30 20 (.call (.f (c 0)) [(.t 24),(.t 29)])) [0,1,2,3,4,5,6,7,8,9,10,11,12] (.rd (zt 31 20 (.un .not (.t 30))) 14 false (.rd (zs 32 (.pick (.t 20) (.t 31) zF)) 15 false .done)) .stop))))))))))))))) (.cond (.t 32) .skip (.exit 2))) (y9p1 c))
def y9p3 (c:Nat→FuncId):LCode:=(.tree (.rd (zv 79 0) 0 false (.rd (zv 80 9) 1 false (.rd (zv 81 0) 2 true (.rd (zv 82 9) 3 true (.rd (zs 83 (.bin .sub .sc (.t 82) (zi 1))) 4 true (.rd (zv 84 0) 5 false (.rd (zv 85 9) 6 false (.rd (zs 86 (.bin .sub .sc (.t 85) (zi 1))) 7 false (.rd (zs 87 (.ixa (.sl 1) (.t 84) (.t 86))) 8 false (.rd (zs 88 (.load1 false (.t 87))) 9 false (.rd (zv 89 0) 10 false (.rd (zv 90 9) 11 false (.rd (zs 91 (.ixa (.sl 1) (.t 89) (.t 90))) 12 false (.rd (zs 92 (.load1 false (.t 91))) 13 false (.rd (zs 93 (.ixa (.sl 1) (.t 79) (.t 80))) 14 false (.mv (zn (.store 1 (.t 93) (.t 88))) [0,1,5,6,7,8,9,10,11,12,13,14] (.rd (zs 94 (.ixa (.sl 1) (.t 81) (.t 83))) 16 false (.mv (zn (.store 1 (.t 94) (.t 92))) [0,1,2,3,4,5,6,7,8,9,10,11,12,13,14,15,16] .done .stop)) .stop)))))))))))))))))
def y9p4 (c:Nat→FuncId):LCode:=(.sq [(zv 66 9),(zs 67 (.bin .sub .sc (.t 66) (zi 1))),(zs 9 (.mv true (.t 67)))])
def y9p5 (c:Nat→FuncId):LCode:=(.seq (.block 5 (.seq (.seq (.tree (.rd (zv 68 0) 0 false (.rd (zv 69 9) 1 false (.rd (zs 70 (.ixa (.sl 1) (.t 68) (.t 69))) 2 false (.rd (zs 71 (.load1 false (.t 70))) 3 false (.rd (zv 72 0) 4 false (.rd (zv 73 9) 5 false (.rd (zs 74 (.bin .sub .sc (.t 73) (zi 1))) 6 false (.rd (zs 75 (.ixa (.sl 1) (.t 72) (.t 74))) 7 false (.rd (zs 76 (.load1 false (.t 75))) 8 false (.mv (zs 77 (.call (.f (c 0)) [(.t 71),(.t 76)])) [0,1,2,3,4,5,6,7,8] (.rd (zs 78 (.un .not (.t 77))) 10 false .done) .stop))))))))))) (.cond (.t 78) (.exit 4) .skip)) (y9p3 c))) (y9p4 c))
def y9p6 (c:Nat→FuncId):LCode:=(.seq (.seq (.sq [(zv 64 9),(zs 65 (.bin .geq .sc (.t 64) (zi 1)))]) (.cond (.t 65) .skip (.exit 4))) (y9p5 c))
def y9p7 (c:Nat→FuncId):LCode:=(.block 4 (.loop (zm false [0,3,4,3,123]) (y9p6 c)))
def y9p8 (c:Nat→FuncId):LCode:=(.seq (.sq [(zv 62 7),(zs 63 (.bin .sub .sc (.t 62) (zi 1))),(zs 9 (.mv true (.t 63)))]) (y9p7 c))
def y9p9 (c:Nat→FuncId):LCode:=(.tree (.rd (zv 117 0) 0 false (.rd (zv 118 10) 1 false (.rd (zv 119 0) 2 true (.rd (zv 120 10) 3 true (.rd (zs 121 (.bin .sub .sc (.t 120) (zi 1))) 4 true (.rd (zv 122 0) 5 false (.rd (zv 123 10) 6 false (.rd (zs 124 (.bin .sub .sc (.t 123) (zi 1))) 7 false (.rd (zs 125 (.ixa (.sl 1) (.t 122) (.t 124))) 8 false (.rd (zs 126 (.load1 false (.t 125))) 9 false (.rd (zv 127 0) 10 false (.rd (zv 128 10) 11 false (.rd (zs 129 (.ixa (.sl 1) (.t 127) (.t 128))) 12 false (.rd (zs 130 (.load1 false (.t 129))) 13 false (.rd (zs 131 (.ixa (.sl 1) (.t 117) (.t 118))) 14 false (.mv (zn (.store 1 (.t 131) (.t 126))) [0,1,5,6,7,8,9,10,11,12,13,14] (.rd (zs 132 (.ixa (.sl 1) (.t 119) (.t 121))) 16 false (.mv (zn (.store 1 (.t 132) (.t 130))) [0,1,2,3,4,5,6,7,8,9,10,11,12,13,14,15,16] .done .stop)) .stop)))))))))))))))))
def y9p10 (c:Nat→FuncId):LCode:=(.sq [(zv 104 10),(zs 105 (.bin .add .sc (.t 104) (zi 1))),(zs 10 (.mv true (.t 105)))])
def y9p11 (c:Nat→FuncId):LCode:=(.seq (.block 7 (.seq (.seq (.tree (.rd (zv 106 0) 0 false (.rd (zv 107 10) 1 false (.rd (zs 108 (.ixa (.sl 1) (.t 106) (.t 107))) 2 false (.rd (zs 109 (.load1 false (.t 108))) 3 false (.rd (zv 110 0) 4 false (.rd (zv 111 10) 5 false (.rd (zs 112 (.bin .sub .sc (.t 111) (zi 1))) 6 false (.rd (zs 113 (.ixa (.sl 1) (.t 110) (.t 112))) 7 false (.rd (zs 114 (.load1 false (.t 113))) 8 false (.mv (zs 115 (.call (.f (c 0)) [(.t 109),(.t 114)])) [0,1,2,3,4,5,6,7,8] (.rd (zs 116 (.un .not (.t 115))) 10 false .done) .stop))))))))))) (.cond (.t 116) (.exit 6) .skip)) (y9p9 c))) (y9p10 c))
def y9p12 (c:Nat→FuncId):LCode:=(.seq (.seq (.sq [(zv 101 10),(zv 102 2),(zs 103 (.bin .lss .sc (.t 101) (.t 102)))]) (.cond (.t 103) .skip (.exit 6))) (y9p11 c))
def y9p13 (c:Nat→FuncId):LCode:=(.block 6 (.loop (zm false [0,3,4,2,1,1,122]) (y9p12 c)))
def y9p14 (c:Nat→FuncId):LCode:=(.seq (.sq [(zv 99 7),(zs 100 (.bin .add .sc (.t 99) (zi 1))),(zs 10 (.mv true (.t 100)))]) (y9p13 c))
def y9p15 (c:Nat→FuncId):LCode:=(.seq (.sq [(zv 95 2),(zv 96 7),(zs 97 (.bin .sub .sc (.t 95) (.t 96))),(zs 98 (.bin .geq .sc (.t 97) (zi 2)))]) (.cond (.t 98) (y9p14 c) .skip))
def y9p16 (c:Nat→FuncId):LCode:=(.seq (.seq (.sq [(zv 58 7),(zv 59 1),(zs 60 (.bin .sub .sc (.t 58) (.t 59))),(zs 61 (.bin .geq .sc (.t 60) (zi 2)))]) (.cond (.t 61) (y9p8 c) .skip)) (y9p15 c))
def y9p17 (c:Nat→FuncId):LCode:=(.seq (.tree (.rd (zv 42 0) 0 false (.rd (zv 43 7) 1 false (.rd (zv 44 0) 2 true (.rd (zv 45 7) 3 true (.rd (zs 46 (.bin .sub .sc (.t 45) (zi 1))) 4 true (.rd (zv 47 0) 5 false (.rd (zv 48 7) 6 false (.rd (zs 49 (.bin .sub .sc (.t 48) (zi 1))) 7 false (.rd (zs 50 (.ixa (.sl 1) (.t 47) (.t 49))) 8 false (.rd (zs 51 (.load1 false (.t 50))) 9 false (.rd (zv 52 0) 10 false (.rd (zv 53 7) 11 false (.rd (zs 54 (.ixa (.sl 1) (.t 52) (.t 53))) 12 false (.rd (zs 55 (.load1 false (.t 54))) 13 false (.rd (zs 56 (.ixa (.sl 1) (.t 42) (.t 43))) 14 false (.mv (zn (.store 1 (.t 56) (.t 51))) [0,1,5,6,7,8,9,10,11,12,13,14] (.rd (zs 57 (.ixa (.sl 1) (.t 44) (.t 46))) 16 false (.mv (zn (.store 1 (.t 57) (.t 55))) [0,1,2,3,4,5,6,7,8,9,10,11,12,13,14,15,16] .done .stop)) .stop))))))))))))))))) (y9p16 c))
def y9p18 (c:Nat→FuncId):LCode:=(.seq (.seq (.sq [(zv 38 2),(zv 39 1),(zs 40 (.bin .sub .sc (.t 38) (.t 39))),(zs 41 (.bin .lss .sc (.t 40) (zi 50)))]) (.cond (.t 41) (.seq (.sq [(zs 6 (.mv true zF))]) .ret) .skip)) (y9p17 c))
def y9p19 (c:Nat→FuncId):LCode:=(.seq (.seq (.sq [(zv 35 7),(zv 36 2),(zs 37 (.bin .eql .sc (.t 35) (.t 36)))]) (.cond (.t 37) (.seq (.sq [(zs 6 (.mv true zT))]) .ret) .skip)) (y9p18 c))
def y9p20 (c:Nat→FuncId):LCode:=(.sq [(zv 15 8),(zs 16 (.bin .add .sc (.t 15) (zi 1))),(zs 8 (.mv true (.t 16)))])
def y9p21 (c:Nat→FuncId):LCode:=(.seq (.block 1 (.seq (.block 2 (.loop (zm false [0,3,4,2,124]) (y9p2 c))) (y9p19 c))) (y9p20 c))
def y9p22 (c:Nat→FuncId):LCode:=(.seq (.seq (.sq [(zv 13 8),(zs 14 (.bin .lss .sc (.t 13) (zi 5)))]) (.cond (.t 14) .skip (.exit 0))) (y9p21 c))
def y9p23 (c:Nat→FuncId):LCode:=(.block 0 (.loop (zm false [0,3,4,2,124]) (y9p22 c)))
def y9p24 (c:Nat→FuncId):LCode:=(.seq (.seq (.sq [(zs 8 (.mv true (zi 0)))]) (y9p23 c)) (.seq (.sq [(zs 6 (.mv true zF))]) .ret))
def y9p25 (c:Nat→FuncId):LCode:=(.seq (.sq [(zv 11 1),(zs 12 (.bin .add .sc (.t 11) (zi 1))),(zs 7 (.mv true (.t 12)))]) (y9p24 c))
def Uz3 (c:Nat→FuncId):=PLift.up (zc (zc (zc (zc (@unfC _ _ (y9p1.eq_1 c)) (zc (@unfC _ _ (y9p2.eq_1 c)) (@unfC _ _ (y9p3.eq_1 c)))) (zc (@unfC _ _ (y9p4.eq_1 c)) (zc (@unfC _ _ (y9p5.eq_1 c)) (@unfC _ _ (y9p6.eq_1 c))))) (zc (zc (@unfC _ _ (y9p7.eq_1 c)) (zc (@unfC _ _ (y9p8.eq_1 c)) (@unfC _ _ (y9p9.eq_1 c)))) (zc (@unfC _ _ (y9p10.eq_1 c)) (zc (@unfC _ _ (y9p11.eq_1 c)) (@unfC _ _ (y9p12.eq_1 c)))))) (zc (zc (zc (@unfC _ _ (y9p13.eq_1 c)) (zc (@unfC _ _ (y9p14.eq_1 c)) (@unfC _ _ (y9p15.eq_1 c)))) (zc (@unfC _ _ (y9p16.eq_1 c)) (zc (@unfC _ _ (y9p17.eq_1 c)) (@unfC _ _ (y9p18.eq_1 c))))) (zc (zc (@unfC _ _ (y9p19.eq_1 c)) (zc (@unfC _ _ (y9p20.eq_1 c)) (@unfC _ _ (y9p21.eq_1 c)))) (zc (zc (@unfC _ _ (y9p22.eq_1 c)) (@unfC _ _ (y9p23.eq_1 c))) (zc (@unfC _ _ (y9p24.eq_1 c)) (@unfC _ _ (y9p25.eq_1 c)))))))
def Cz0 (c:Nat→FuncId):LFn:=⟨133,[.t 6],(.seq (.sq [(zs 6 (.mv true zF))]) (y9p25 c))⟩
def y9q1 (c:Nat→FuncId):LCode:=(.block 3 (.sq [(zv 44 9),(zs 45 (.bin .add .sc (.t 44) (zi 1))),(zs 9 (.mv true (.t 45)))]))
def y9q2 (c:Nat→FuncId):LCode:=(.seq (.seq (.tree (.rd (zv 29 9) 0 false (.rd (zv 30 10) 1 false (.rd (zs 31 (.bin .leq .sc (.t 29) (.t 30))) 2 false (.rd (zv 32 31) 3 false (.rd (zt 33 32 (.mv false (.t 0))) 4 false (.rd (zt 34 32 (.mv false (.t 1))) 5 false (.rd (zt 35 32 (.ixa (.sl 1) (.t 33) (.t 34))) 6 false (.rd (zt 36 32 (.load1 false (.t 35))) 7 false (.rd (zt 37 32 (.mv false (.t 0))) 8 false (.rd (zt 38 32 (.mv false (.t 9))) 9 false (.rd (zt 39 32 (.ixa (.sl 1) (.t 37) (.t 38))) 10 false (.rd (zt 40 32 (.load1 false (.t 39))) 11 false (.mv (zt 41 32 (.call (.f (c 0)) [(.t 36),(.t 40)])) [0,1,2,3,4,5,6,7,8,9,10,11] (.rd (zt 42 32 (.un .not (.t 41))) 13 false (.rd (zs 43 (.pick (.t 32) (.t 42) zF)) 14 false .done)) .stop)))))))))))))) (.cond (.t 43) .skip (.exit 2))) (y9q1 c))
def y9q3 (c:Nat→FuncId):LCode:=(.block 5 (.sq [(zv 60 10),(zs 61 (.bin .sub .sc (.t 60) (zi 1))),(zs 10 (.mv true (.t 61)))]))
def y9q4 (c:Nat→FuncId):LCode:=(.seq (.seq (.tree (.rd (zv 46 9) 0 false (.rd (zv 47 10) 1 false (.rd (zs 48 (.bin .leq .sc (.t 46) (.t 47))) 2 false (.rd (zv 49 48) 3 false (.rd (zt 50 49 (.mv false (.t 0))) 4 false (.rd (zt 51 49 (.mv false (.t 1))) 5 false (.rd (zt 52 49 (.ixa (.sl 1) (.t 50) (.t 51))) 6 false (.rd (zt 53 49 (.load1 false (.t 52))) 7 false (.rd (zt 54 49 (.mv false (.t 0))) 8 false (.rd (zt 55 49 (.mv false (.t 10))) 9 false (.rd (zt 56 49 (.ixa (.sl 1) (.t 54) (.t 55))) 10 false (.rd (zt 57 49 (.load1 false (.t 56))) 11 false (.mv (zt 58 49 (.call (.f (c 0)) [(.t 53),(.t 57)])) [0,1,2,3,4,5,6,7,8,9,10,11] (.rd (zs 59 (.pick (.t 49) (.t 58) zF)) 13 false .done) .stop)))))))))))))) (.cond (.t 59) .skip (.exit 4))) (y9q3 c))
def y9q5 (c:Nat→FuncId):LCode:=(.sq [(zv 81 10),(zs 82 (.bin .sub .sc (.t 81) (zi 1))),(zs 10 (.mv true (.t 82)))])
def y9q6 (c:Nat→FuncId):LCode:=(.seq (.sq [(zv 79 9),(zs 80 (.bin .add .sc (.t 79) (zi 1))),(zs 9 (.mv true (.t 80)))]) (y9q5 c))
def y9q7 (c:Nat→FuncId):LCode:=(.seq (.tree (.rd (zv 65 0) 0 false (.rd (zv 66 9) 1 false (.rd (zv 67 0) 2 true (.rd (zv 68 10) 3 true (.rd (zv 69 0) 4 false (.rd (zv 70 10) 5 false (.rd (zs 71 (.ixa (.sl 1) (.t 69) (.t 70))) 6 false (.rd (zs 72 (.load1 false (.t 71))) 7 false (.rd (zv 73 0) 8 false (.rd (zv 74 9) 9 false (.rd (zs 75 (.ixa (.sl 1) (.t 73) (.t 74))) 10 false (.rd (zs 76 (.load1 false (.t 75))) 11 false (.rd (zs 77 (.ixa (.sl 1) (.t 65) (.t 66))) 12 false (.mv (zn (.store 1 (.t 77) (.t 72))) [0,1,4,5,6,7,8,9,10,11,12] (.rd (zs 78 (.ixa (.sl 1) (.t 67) (.t 68))) 14 false (.mv (zn (.store 1 (.t 78) (.t 76))) [0,1,2,3,4,5,6,7,8,9,10,11,12,13,14] .done .stop)) .stop))))))))))))))) (y9q6 c))
def y9q8 (c:Nat→FuncId):LCode:=(.seq (.seq (.sq [(zv 62 9),(zv 63 10),(zs 64 (.bin .gtr .sc (.t 62) (.t 63)))]) (.cond (.t 64) (.exit 0) .skip)) (y9q7 c))
def y9q9 (c:Nat→FuncId):LCode:=(.seq (.block 4 (.loop (zm false [0,2,7,2,73]) (y9q4 c))) (y9q8 c))
def y9q10 (c:Nat→FuncId):LCode:=(.block 1 (.seq (.block 2 (.loop (zm false [0,2,7,2,73]) (y9q2 c))) (y9q9 c)))
def y9q11 (c:Nat→FuncId):LCode:=(.seq (.block 0 (.loop (zm false [0,2,7,2,73]) (y9q10 c))) (.seq (.sq [(zv 83 9),(zs 8 (.mv true (.t 83)))]) .ret))
def y9q12 (c:Nat→FuncId):LCode:=(.seq (.sq [(zv 25 1),(zs 26 (.bin .add .sc (.t 25) (zi 1))),(zv 27 2),(zs 28 (.bin .sub .sc (.t 27) (zi 1))),(zs 9 (.mv true (.t 26))),(zs 10 (.mv true (.t 28)))]) (y9q11 c))
def y9q13 (c:Nat→FuncId):LCode:=(.seq (.tree (.rd (zv 11 0) 0 false (.rd (zv 12 1) 1 false (.rd (zv 13 0) 2 true (.rd (zv 14 3) 3 true (.rd (zv 15 0) 4 false (.rd (zv 16 3) 5 false (.rd (zs 17 (.ixa (.sl 1) (.t 15) (.t 16))) 6 false (.rd (zs 18 (.load1 false (.t 17))) 7 false (.rd (zv 19 0) 8 false (.rd (zv 20 1) 9 false (.rd (zs 21 (.ixa (.sl 1) (.t 19) (.t 20))) 10 false (.rd (zs 22 (.load1 false (.t 21))) 11 false (.rd (zs 23 (.ixa (.sl 1) (.t 11) (.t 12))) 12 false (.mv (zn (.store 1 (.t 23) (.t 18))) [0,1,4,5,6,7,8,9,10,11,12] (.rd (zs 24 (.ixa (.sl 1) (.t 13) (.t 14))) 14 false (.mv (zn (.store 1 (.t 24) (.t 22))) [0,1,2,3,4,5,6,7,8,9,10,11,12,13,14] .done .stop)) .stop))))))))))))))) (y9q12 c))
def Uzc (c:Nat→FuncId):=PLift.up (zc (zc (zc (@unfC _ _ (y9q1.eq_1 c)) (zc (@unfC _ _ (y9q2.eq_1 c)) (@unfC _ _ (y9q3.eq_1 c)))) (zc (@unfC _ _ (y9q4.eq_1 c)) (zc (@unfC _ _ (y9q5.eq_1 c)) (@unfC _ _ (y9q6.eq_1 c))))) (zc (zc (@unfC _ _ (y9q7.eq_1 c)) (zc (@unfC _ _ (y9q8.eq_1 c)) (@unfC _ _ (y9q9.eq_1 c)))) (zc (zc (@unfC _ _ (y9q10.eq_1 c)) (@unfC _ _ (y9q11.eq_1 c))) (zc (@unfC _ _ (y9q12.eq_1 c)) (@unfC _ _ (y9q13.eq_1 c))))))
def Cza (c:Nat→FuncId):LFn:=⟨84,[.t 8],(.seq (.sq [(zs 8 (.mv true (zi 0)))]) (y9q13 c))⟩
def y9r1 (c:Nat→FuncId):LCode:=(.block 1 (.sq [(zv 44 10),(zs 45 (.bin .add .sc (.t 44) (zi 1))),(zs 10 (.mv true (.t 45)))]))
def y9r2 (c:Nat→FuncId):LCode:=(.seq (.seq (.tree (.rd (zv 30 10) 0 false (.rd (zv 31 11) 1 false (.rd (zs 32 (.bin .leq .sc (.t 30) (.t 31))) 2 false (.rd (zv 33 32) 3 false (.rd (zt 34 33 (.mv false (.t 0))) 4 false (.rd (zt 35 33 (.mv false (.t 10))) 5 false (.rd (zt 36 33 (.ixa (.sl 1) (.t 34) (.t 35))) 6 false (.rd (zt 37 33 (.load1 false (.t 36))) 7 false (.rd (zt 38 33 (.mv false (.t 0))) 8 false (.rd (zt 39 33 (.mv false (.t 1))) 9 false (.rd (zt 40 33 (.ixa (.sl 1) (.t 38) (.t 39))) 10 false (.rd (zt 41 33 (.load1 false (.t 40))) 11 false (.mv (zt 42 33 (.call (.f (c 0)) [(.t 37),(.t 41)])) [0,1,2,3,4,5,6,7,8,9,10,11] (.rd (zs 43 (.pick (.t 33) (.t 42) zF)) 13 false .done) .stop)))))))))))))) (.cond (.t 43) .skip (.exit 0))) (y9r1 c))
def y9r3 (c:Nat→FuncId):LCode:=(.block 3 (.sq [(zv 61 11),(zs 62 (.bin .sub .sc (.t 61) (zi 1))),(zs 11 (.mv true (.t 62)))]))
def y9r4 (c:Nat→FuncId):LCode:=(.seq (.seq (.tree (.rd (zv 46 10) 0 false (.rd (zv 47 11) 1 false (.rd (zs 48 (.bin .leq .sc (.t 46) (.t 47))) 2 false (.rd (zv 49 48) 3 false (.rd (zt 50 49 (.mv false (.t 0))) 4 false (.rd (zt 51 49 (.mv false (.t 11))) 5 false (.rd (zt 52 49 (.ixa (.sl 1) (.t 50) (.t 51))) 6 false (.rd (zt 53 49 (.load1 false (.t 52))) 7 false (.rd (zt 54 49 (.mv false (.t 0))) 8 false (.rd (zt 55 49 (.mv false (.t 1))) 9 false (.rd (zt 56 49 (.ixa (.sl 1) (.t 54) (.t 55))) 10 false (.rd (zt 57 49 (.load1 false (.t 56))) 11 false (.mv (zt 58 49 (.call (.f (c 0)) [(.t 53),(.t 57)])) [0,1,2,3,4,5,6,7,8,9,10,11] (.rd (zt 59 49 (.un .not (.t 58))) 13 false (.rd (zs 60 (.pick (.t 49) (.t 59) zF)) 14 false .done)) .stop)))))))))))))) (.cond (.t 60) .skip (.exit 2))) (y9r3 c))
def y9r5 (c:Nat→FuncId):LCode:=(.seq (.sq [(zv 80 11),(zs 8 (.mv true (.t 80))),(zs 9 (.mv true zT))]) .ret)
def y9r6 (c:Nat→FuncId):LCode:=(.seq (.tree (.rd (zv 66 0) 0 false (.rd (zv 67 11) 1 false (.rd (zv 68 0) 2 true (.rd (zv 69 1) 3 true (.rd (zv 70 0) 4 false (.rd (zv 71 1) 5 false (.rd (zs 72 (.ixa (.sl 1) (.t 70) (.t 71))) 6 false (.rd (zs 73 (.load1 false (.t 72))) 7 false (.rd (zv 74 0) 8 false (.rd (zv 75 11) 9 false (.rd (zs 76 (.ixa (.sl 1) (.t 74) (.t 75))) 10 false (.rd (zs 77 (.load1 false (.t 76))) 11 false (.rd (zs 78 (.ixa (.sl 1) (.t 66) (.t 67))) 12 false (.mv (zn (.store 1 (.t 78) (.t 73))) [0,1,4,5,6,7,8,9,10,11,12] (.rd (zs 79 (.ixa (.sl 1) (.t 68) (.t 69))) 14 false (.mv (zn (.store 1 (.t 79) (.t 77))) [0,1,2,3,4,5,6,7,8,9,10,11,12,13,14] .done .stop)) .stop))))))))))))))) (y9r5 c))
def y9r7 (c:Nat→FuncId):LCode:=(.block 7 (.sq [(zv 113 10),(zs 114 (.bin .add .sc (.t 113) (zi 1))),(zs 10 (.mv true (.t 114)))]))
def y9r8 (c:Nat→FuncId):LCode:=(.seq (.seq (.tree (.rd (zv 99 10) 0 false (.rd (zv 100 11) 1 false (.rd (zs 101 (.bin .leq .sc (.t 99) (.t 100))) 2 false (.rd (zv 102 101) 3 false (.rd (zt 103 102 (.mv false (.t 0))) 4 false (.rd (zt 104 102 (.mv false (.t 10))) 5 false (.rd (zt 105 102 (.ixa (.sl 1) (.t 103) (.t 104))) 6 false (.rd (zt 106 102 (.load1 false (.t 105))) 7 false (.rd (zt 107 102 (.mv false (.t 0))) 8 false (.rd (zt 108 102 (.mv false (.t 1))) 9 false (.rd (zt 109 102 (.ixa (.sl 1) (.t 107) (.t 108))) 10 false (.rd (zt 110 102 (.load1 false (.t 109))) 11 false (.mv (zt 111 102 (.call (.f (c 0)) [(.t 106),(.t 110)])) [0,1,2,3,4,5,6,7,8,9,10,11] (.rd (zs 112 (.pick (.t 102) (.t 111) zF)) 13 false .done) .stop)))))))))))))) (.cond (.t 112) .skip (.exit 6))) (y9r7 c))
def y9r9 (c:Nat→FuncId):LCode:=(.block 9 (.sq [(zv 130 11),(zs 131 (.bin .sub .sc (.t 130) (zi 1))),(zs 11 (.mv true (.t 131)))]))
def y9r10 (c:Nat→FuncId):LCode:=(.seq (.seq (.tree (.rd (zv 115 10) 0 false (.rd (zv 116 11) 1 false (.rd (zs 117 (.bin .leq .sc (.t 115) (.t 116))) 2 false (.rd (zv 118 117) 3 false (.rd (zt 119 118 (.mv false (.t 0))) 4 false (.rd (zt 120 118 (.mv false (.t 11))) 5 false (.rd (zt 121 118 (.ixa (.sl 1) (.t 119) (.t 120))) 6 false (.rd (zt 122 118 (.load1 false (.t 121))) 7 false (.rd (zt 123 118 (.mv false (.t 0))) 8 false (.rd (zt 124 118 (.mv false (.t 1))) 9 false (.rd (zt 125 118 (.ixa (.sl 1) (.t 123) (.t 124))) 10 false (.rd (zt 126 118 (.load1 false (.t 125))) 11 false (.mv (zt 127 118 (.call (.f (c 0)) [(.t 122),(.t 126)])) [0,1,2,3,4,5,6,7,8,9,10,11] (.rd (zt 128 118 (.un .not (.t 127))) 13 false (.rd (zs 129 (.pick (.t 118) (.t 128) zF)) 14 false .done)) .stop)))))))))))))) (.cond (.t 129) .skip (.exit 8))) (y9r9 c))
def y9r11 (c:Nat→FuncId):LCode:=(.sq [(zv 151 11),(zs 152 (.bin .sub .sc (.t 151) (zi 1))),(zs 11 (.mv true (.t 152)))])
def y9r12 (c:Nat→FuncId):LCode:=(.seq (.sq [(zv 149 10),(zs 150 (.bin .add .sc (.t 149) (zi 1))),(zs 10 (.mv true (.t 150)))]) (y9r11 c))
def y9r13 (c:Nat→FuncId):LCode:=(.seq (.tree (.rd (zv 135 0) 0 false (.rd (zv 136 10) 1 false (.rd (zv 137 0) 2 true (.rd (zv 138 11) 3 true (.rd (zv 139 0) 4 false (.rd (zv 140 11) 5 false (.rd (zs 141 (.ixa (.sl 1) (.t 139) (.t 140))) 6 false (.rd (zs 142 (.load1 false (.t 141))) 7 false (.rd (zv 143 0) 8 false (.rd (zv 144 10) 9 false (.rd (zs 145 (.ixa (.sl 1) (.t 143) (.t 144))) 10 false (.rd (zs 146 (.load1 false (.t 145))) 11 false (.rd (zs 147 (.ixa (.sl 1) (.t 135) (.t 136))) 12 false (.mv (zn (.store 1 (.t 147) (.t 142))) [0,1,4,5,6,7,8,9,10,11,12] (.rd (zs 148 (.ixa (.sl 1) (.t 137) (.t 138))) 14 false (.mv (zn (.store 1 (.t 148) (.t 146))) [0,1,2,3,4,5,6,7,8,9,10,11,12,13,14] .done .stop)) .stop))))))))))))))) (y9r12 c))
def y9r14 (c:Nat→FuncId):LCode:=(.seq (.seq (.sq [(zv 132 10),(zv 133 11),(zs 134 (.bin .gtr .sc (.t 132) (.t 133)))]) (.cond (.t 134) (.exit 4) .skip)) (y9r13 c))
def y9r15 (c:Nat→FuncId):LCode:=(.seq (.block 8 (.loop (zm false [0,2,8,2,156]) (y9r10 c))) (y9r14 c))
def y9r16 (c:Nat→FuncId):LCode:=(.block 5 (.seq (.block 6 (.loop (zm false [0,2,8,2,156]) (y9r8 c))) (y9r15 c)))
def y9r17 (c:Nat→FuncId):LCode:=(.seq (.sq [(zv 167 11),(zs 8 (.mv true (.t 167))),(zs 9 (.mv true zF))]) .ret)
def y9r18 (c:Nat→FuncId):LCode:=(.seq (.tree (.rd (zv 153 0) 0 false (.rd (zv 154 11) 1 false (.rd (zv 155 0) 2 true (.rd (zv 156 1) 3 true (.rd (zv 157 0) 4 false (.rd (zv 158 1) 5 false (.rd (zs 159 (.ixa (.sl 1) (.t 157) (.t 158))) 6 false (.rd (zs 160 (.load1 false (.t 159))) 7 false (.rd (zv 161 0) 8 false (.rd (zv 162 11) 9 false (.rd (zs 163 (.ixa (.sl 1) (.t 161) (.t 162))) 10 false (.rd (zs 164 (.load1 false (.t 163))) 11 false (.rd (zs 165 (.ixa (.sl 1) (.t 153) (.t 154))) 12 false (.mv (zn (.store 1 (.t 165) (.t 160))) [0,1,4,5,6,7,8,9,10,11,12] (.rd (zs 166 (.ixa (.sl 1) (.t 155) (.t 156))) 14 false (.mv (zn (.store 1 (.t 166) (.t 164))) [0,1,2,3,4,5,6,7,8,9,10,11,12,13,14] .done .stop)) .stop))))))))))))))) (y9r17 c))
def y9r19 (c:Nat→FuncId):LCode:=(.seq (.block 4 (.loop (zm false [0,2,8,2,156]) (y9r16 c))) (y9r18 c))
def y9r20 (c:Nat→FuncId):LCode:=(.seq (.sq [(zv 97 11),(zs 98 (.bin .sub .sc (.t 97) (zi 1))),(zs 11 (.mv true (.t 98)))]) (y9r19 c))
def y9r21 (c:Nat→FuncId):LCode:=(.seq (.sq [(zv 95 10),(zs 96 (.bin .add .sc (.t 95) (zi 1))),(zs 10 (.mv true (.t 96)))]) (y9r20 c))
def y9r22 (c:Nat→FuncId):LCode:=(.seq (.tree (.rd (zv 81 0) 0 false (.rd (zv 82 10) 1 false (.rd (zv 83 0) 2 true (.rd (zv 84 11) 3 true (.rd (zv 85 0) 4 false (.rd (zv 86 11) 5 false (.rd (zs 87 (.ixa (.sl 1) (.t 85) (.t 86))) 6 false (.rd (zs 88 (.load1 false (.t 87))) 7 false (.rd (zv 89 0) 8 false (.rd (zv 90 10) 9 false (.rd (zs 91 (.ixa (.sl 1) (.t 89) (.t 90))) 10 false (.rd (zs 92 (.load1 false (.t 91))) 11 false (.rd (zs 93 (.ixa (.sl 1) (.t 81) (.t 82))) 12 false (.mv (zn (.store 1 (.t 93) (.t 88))) [0,1,4,5,6,7,8,9,10,11,12] (.rd (zs 94 (.ixa (.sl 1) (.t 83) (.t 84))) 14 false (.mv (zn (.store 1 (.t 94) (.t 92))) [0,1,2,3,4,5,6,7,8,9,10,11,12,13,14] .done .stop)) .stop))))))))))))))) (y9r21 c))
def y9r23 (c:Nat→FuncId):LCode:=(.seq (.seq (.sq [(zv 63 10),(zv 64 11),(zs 65 (.bin .gtr .sc (.t 63) (.t 64)))]) (.cond (.t 65) (y9r6 c) .skip)) (y9r22 c))
def y9r24 (c:Nat→FuncId):LCode:=(.seq (.block 2 (.loop (zm false [0,2,8,2,156]) (y9r4 c))) (y9r23 c))
def y9r25 (c:Nat→FuncId):LCode:=(.seq (.block 0 (.loop (zm false [0,2,8,2,156]) (y9r2 c))) (y9r24 c))
def y9r26 (c:Nat→FuncId):LCode:=(.seq (.sq [(zv 26 1),(zs 27 (.bin .add .sc (.t 26) (zi 1))),(zv 28 2),(zs 29 (.bin .sub .sc (.t 28) (zi 1))),(zs 10 (.mv true (.t 27))),(zs 11 (.mv true (.t 29)))]) (y9r25 c))
def y9r27 (c:Nat→FuncId):LCode:=(.seq (.tree (.rd (zv 12 0) 0 false (.rd (zv 13 1) 1 false (.rd (zv 14 0) 2 true (.rd (zv 15 3) 3 true (.rd (zv 16 0) 4 false (.rd (zv 17 3) 5 false (.rd (zs 18 (.ixa (.sl 1) (.t 16) (.t 17))) 6 false (.rd (zs 19 (.load1 false (.t 18))) 7 false (.rd (zv 20 0) 8 false (.rd (zv 21 1) 9 false (.rd (zs 22 (.ixa (.sl 1) (.t 20) (.t 21))) 10 false (.rd (zs 23 (.load1 false (.t 22))) 11 false (.rd (zs 24 (.ixa (.sl 1) (.t 12) (.t 13))) 12 false (.mv (zn (.store 1 (.t 24) (.t 19))) [0,1,4,5,6,7,8,9,10,11,12] (.rd (zs 25 (.ixa (.sl 1) (.t 14) (.t 15))) 14 false (.mv (zn (.store 1 (.t 25) (.t 23))) [0,1,2,3,4,5,6,7,8,9,10,11,12,13,14] .done .stop)) .stop))))))))))))))) (y9r26 c))
def Uz8 (c:Nat→FuncId):=PLift.up (zc (zc (zc (zc (@unfC _ _ (y9r1.eq_1 c)) (zc (@unfC _ _ (y9r2.eq_1 c)) (@unfC _ _ (y9r3.eq_1 c)))) (zc (@unfC _ _ (y9r4.eq_1 c)) (zc (@unfC _ _ (y9r5.eq_1 c)) (@unfC _ _ (y9r6.eq_1 c))))) (zc (zc (@unfC _ _ (y9r7.eq_1 c)) (zc (@unfC _ _ (y9r8.eq_1 c)) (@unfC _ _ (y9r9.eq_1 c)))) (zc (zc (@unfC _ _ (y9r10.eq_1 c)) (@unfC _ _ (y9r11.eq_1 c))) (zc (@unfC _ _ (y9r12.eq_1 c)) (@unfC _ _ (y9r13.eq_1 c)))))) (zc (zc (zc (@unfC _ _ (y9r14.eq_1 c)) (zc (@unfC _ _ (y9r15.eq_1 c)) (@unfC _ _ (y9r16.eq_1 c)))) (zc (zc (@unfC _ _ (y9r17.eq_1 c)) (@unfC _ _ (y9r18.eq_1 c))) (zc (@unfC _ _ (y9r19.eq_1 c)) (@unfC _ _ (y9r20.eq_1 c))))) (zc (zc (@unfC _ _ (y9r21.eq_1 c)) (zc (@unfC _ _ (y9r22.eq_1 c)) (@unfC _ _ (y9r23.eq_1 c)))) (zc (zc (@unfC _ _ (y9r24.eq_1 c)) (@unfC _ _ (y9r25.eq_1 c))) (zc (@unfC _ _ (y9r26.eq_1 c)) (@unfC _ _ (y9r27.eq_1 c)))))))
def Cz6 (c:Nat→FuncId):LFn:=⟨168,[.t 8,.t 9],(.seq (.sq [(zs 8 (.mv true (zi 0))),(zs 9 (.mv true zF))]) (y9r27 c))⟩
def y9s1 (c:Nat→FuncId):LCode:=(.seq (.sq [(zs 24 (.mv true (.t 0))),(zv 25 1),(zv 26 2),(zs 27 (.call (.f (c 0)) [(.t 24),(.t 25),(.t 26)]))]) .ret)
def y9s2 (c:Nat→FuncId):LCode:=(.seq (.sq [(zs 30 (.mv true (.t 0))),(zv 31 1),(zv 32 2),(zs 33 (.call (.f (c 1)) [(.t 30),(.t 31),(.t 32)]))]) .ret)
def y9s3 (c:Nat→FuncId):LCode:=(.sq [(zv 40 3),(zs 41 (.bin .sub .sc (.t 40) (zi 1))),(zs 3 (.mv true (.t 41)))])
def y9s4 (c:Nat→FuncId):LCode:=(.seq (.sq [(zv 36 0),(zv 37 1),(zv 38 2),(zs 39 (.call (.f (c 2)) [(.t 36),(.t 37),(.t 38)]))]) (y9s3 c))
def y9s5 (c:Nat→FuncId):LCode:=(.seq (.sq [(zv 55 2),(zs 56 (.bin .sub .sc (.t 55) (zi 1))),(zv 57 11),(zv 58 1),(zs 59 (.bin .sub .sc (.t 57) (.t 58))),(zs 60 (.bin .sub .sc (.t 56) (.t 59))),(zs 11 (.mv true (.t 60)))]) (.sq [(zs 12 (.mv true (zi 1)))]))
def y9s6 (c:Nat→FuncId):LCode:=(.seq (.sq [(zv 51 0),(zv 52 1),(zv 53 2),(zs 54 (.call (.f (c 4)) [(.t 51),(.t 52),(.t 53)]))]) (y9s5 c))
def y9s7 (c:Nat→FuncId):LCode:=(.seq (.sq [(zv 69 0),(zv 70 1),(zv 71 2),(zs 72 (.call (.f (c 5)) [(.t 69),(.t 70),(.t 71)]))]) (.cond (.t 72) .ret .skip))
def y9s8 (c:Nat→FuncId):LCode:=(.seq (.sq [(zv 88 0),(zv 89 1),(zv 90 2),(zv 91 11),(zs 92 (.call (.f (c 7)) [(.t 88),(.t 89),(.t 90),(.t 91)])),(zs 13 (.mv true (.t 92)))]) (.seq (.sq [(zv 93 13),(zs 1 (.mv true (.t 93)))]) (.exit 1)))
def y9s9 (c:Nat→FuncId):LCode:=(.sq [(zv 122 14),(zs 123 (.bin .add .sc (.t 122) (zi 1))),(zs 1 (.mv true (.t 123)))])
def y9s10 (c:Nat→FuncId):LCode:=(.seq (.sq [(zv 117 0),(zv 118 1),(zv 119 14),(zv 120 3),(zs 121 (.call (.f (c 9)) [(.t 117),(.t 118),(.t 119),(.t 120)]))]) (y9s9 c))
def y9s11 (c:Nat→FuncId):LCode:=(.seq (.sq [(zv 114 16),(zv 115 18),(zs 116 (.bin .geq .sc (.t 114) (.t 115))),(zs 8 (.mv true (.t 116)))]) (y9s10 c))
def y9s12 (c:Nat→FuncId):LCode:=(.seq (.sq [(zv 127 0),(zv 128 14),(zs 129 (.bin .add .sc (.t 128) (zi 1))),(zv 130 2),(zv 131 3),(zs 132 (.call (.f (c 9)) [(.t 127),(.t 129),(.t 130),(.t 131)]))]) (.sq [(zv 133 14),(zs 2 (.mv true (.t 133)))]))
def y9s13 (c:Nat→FuncId):LCode:=(.seq (.sq [(zv 124 17),(zv 125 18),(zs 126 (.bin .geq .sc (.t 124) (.t 125))),(zs 8 (.mv true (.t 126)))]) (y9s12 c))
def y9s14 (c:Nat→FuncId):LCode:=(.seq (.sq [(zv 111 16),(zv 112 17),(zs 113 (.bin .lss .sc (.t 111) (.t 112)))]) (.cond (.t 113) (y9s11 c) (y9s13 c)))
def y9s15 (c:Nat→FuncId):LCode:=(.seq (.sq [(zv 109 10),(zs 110 (.bin .quo .sc (.t 109) (zi 8))),(zs 18 (.mv true (.t 110)))]) (y9s14 c))
def y9s16 (c:Nat→FuncId):LCode:=(.seq (.sq [(zv 103 14),(zv 104 1),(zs 105 (.bin .sub .sc (.t 103) (.t 104))),(zv 106 2),(zv 107 14),(zs 108 (.bin .sub .sc (.t 106) (.t 107))),(zs 16 (.mv true (.t 105))),(zs 17 (.mv true (.t 108)))]) (y9s15 c))
def y9s17 (c:Nat→FuncId):LCode:=(.seq (.sq [(zv 102 15),(zs 9 (.mv true (.t 102)))]) (y9s16 c))
def y9s18 (c:Nat→FuncId):LCode:=(.seq (.sq [(zv 95 0),(zv 96 1),(zv 97 2),(zv 98 11),(zs 99 (.call (.f (c 8)) [(.t 95),(.t 96),(.t 97),(.t 98)])),(zv 94 99),(zs 100 (.ext (.t 94) 0)),(zs 101 (.ext (.t 94) 1)),(zs 14 (.mv true (.t 100))),(zs 15 (.mv true (.t 101)))]) (y9s17 c))
def y9s19 (c:Nat→FuncId):LCode:=(.seq (.seq (.tree (.rd (zv 73 1) 0 false (.rd (zs 74 (.bin .gtr .sc (.t 73) (zi 0))) 1 false (.rd (zv 75 74) 2 false (.rd (zt 76 75 (.mv false (.t 0))) 3 false (.rd (zt 77 75 (.mv false (.t 1))) 4 false (.rd (zt 78 75 (.bin .sub .sc (.t 77) (zi 1))) 5 false (.rd (zt 79 75 (.ixa (.sl 1) (.t 76) (.t 78))) 6 false (.rd (zt 80 75 (.load1 false (.t 79))) 7 false (.rd (zt 81 75 (.mv false (.t 0))) 8 false (.rd (zt 82 75 (.mv false (.t 11))) 9 false (.rd (zt 83 75 (.ixa (.sl 1) (.t 81) (.t 82))) 10 false (.rd (zt 84 75 (.load1 false (.t 83))) 11 false (.mv (zt 85 75 (.call (.f (c 6)) [(.t 80),(.t 84)])) [0,1,2,3,4,5,6,7,8,9,10,11] (.rd (zt 86 75 (.un .not (.t 85))) 13 false (.rd (zs 87 (.pick (.t 75) (.t 86) zF)) 14 false .done)) .stop)))))))))))))) (.cond (.t 87) (y9s8 c) .skip)) (y9s18 c))
def y9s20 (c:Nat→FuncId):LCode:=(.seq (.seq (.sq [(zv 61 8),(zv 62 61),(zt 63 62 (.mv false (.t 9))),(zs 64 (.pick (.t 62) (.t 63) zF)),(zv 65 64),(zt 66 65 (.mv false (.t 12))),(zt 67 65 (.bin .eql .sc (.t 66) (zi 1))),(zs 68 (.pick (.t 65) (.t 67) zF))]) (.cond (.t 68) (y9s7 c) .skip)) (y9s19 c))
def y9s21 (c:Nat→FuncId):LCode:=(.seq (.seq (.sq [(zv 49 12),(zs 50 (.bin .eql .sc (.t 49) (zi 2)))]) (.cond (.t 50) (y9s6 c) .skip)) (y9s20 c))
def y9s22 (c:Nat→FuncId):LCode:=(.seq (.sq [(zv 43 0),(zv 44 1),(zv 45 2),(zs 46 (.call (.f (c 3)) [(.t 43),(.t 44),(.t 45)])),(zv 42 46),(zs 47 (.ext (.t 42) 0)),(zs 48 (.ext (.t 42) 1)),(zs 11 (.mv true (.t 47))),(zs 12 (.mv true (.t 48)))]) (y9s21 c))
def y9s23 (c:Nat→FuncId):LCode:=(.seq (.seq (.sq [(zv 34 8),(zs 35 (.un .not (.t 34)))]) (.cond (.t 35) (y9s4 c) .skip)) (y9s22 c))
def y9s24 (c:Nat→FuncId):LCode:=(.seq (.seq (.sq [(zv 28 3),(zs 29 (.bin .eql .sc (.t 28) (zi 0)))]) (.cond (.t 29) (y9s2 c) .skip)) (y9s23 c))
def y9s25 (c:Nat→FuncId):LCode:=(.seq (.seq (.sq [(zv 22 10),(zs 23 (.bin .leq .sc (.t 22) (zi 12)))]) (.cond (.t 23) (y9s1 c) .skip)) (y9s24 c))
def y9s26 (c:Nat→FuncId):LCode:=(.block 1 (.seq (.sq [(zv 19 2),(zv 20 1),(zs 21 (.bin .sub .sc (.t 19) (.t 20))),(zs 10 (.mv true (.t 21)))]) (y9s25 c)))
def y9s27 (c:Nat→FuncId):LCode:=(.block 0 (.loop (zm false [0,4,4,2,124]) (y9s26 c)))
def Uz1x (c:Nat→FuncId):=PLift.up (zc (zc (zc (zc (@unfC _ _ (y9s1.eq_1 c)) (zc (@unfC _ _ (y9s2.eq_1 c)) (@unfC _ _ (y9s3.eq_1 c)))) (zc (@unfC _ _ (y9s4.eq_1 c)) (zc (@unfC _ _ (y9s5.eq_1 c)) (@unfC _ _ (y9s6.eq_1 c))))) (zc (zc (@unfC _ _ (y9s7.eq_1 c)) (zc (@unfC _ _ (y9s8.eq_1 c)) (@unfC _ _ (y9s9.eq_1 c)))) (zc (zc (@unfC _ _ (y9s10.eq_1 c)) (@unfC _ _ (y9s11.eq_1 c))) (zc (@unfC _ _ (y9s12.eq_1 c)) (@unfC _ _ (y9s13.eq_1 c)))))) (zc (zc (zc (@unfC _ _ (y9s14.eq_1 c)) (zc (@unfC _ _ (y9s15.eq_1 c)) (@unfC _ _ (y9s16.eq_1 c)))) (zc (zc (@unfC _ _ (y9s17.eq_1 c)) (@unfC _ _ (y9s18.eq_1 c))) (zc (@unfC _ _ (y9s19.eq_1 c)) (@unfC _ _ (y9s20.eq_1 c))))) (zc (zc (@unfC _ _ (y9s21.eq_1 c)) (zc (@unfC _ _ (y9s22.eq_1 c)) (@unfC _ _ (y9s23.eq_1 c)))) (zc (zc (@unfC _ _ (y9s24.eq_1 c)) (@unfC _ _ (y9s25.eq_1 c))) (zc (@unfC _ _ (y9s26.eq_1 c)) (@unfC _ _ (y9s27.eq_1 c)))))))
def Cz10 (c:Nat→FuncId):LFn:=⟨134,[],(.seq (.sq [(zs 8 (.mv true zT))]) (.seq (.sq [(zs 9 (.mv true zT))]) (y9s27 c)))⟩
end Go.AM
