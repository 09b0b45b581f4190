import Derived.Test.YtlnclcpffepfaaaM7
import Derived.Test.YtlnclcpffepfaaaM6
set_option linter.unusedSimpArgs false
set_option linter.unusedVariables false
namespace Go.AM
open Go
inductive Opd where
  | t (n:Nat)
  | c (x:Sc)
  | f (n:FuncId)
  | no
  deriving DecidableEq
def Opd.of (x:Operand):Opd :=
  match x with
  | .tmp n => .t n
  | .const v=>match Sc.ofV v with
    | some x => .c x
    | none => .no
  | .func n => .f n
  | .global _ => .no
def opL (fr:Fr):Opd→AV
  | .t n=>fr.getD n .undef
  | .c x => .s x
  | .f n => .fn (.func n) [] []
  | .no => .undef
def seL (fr:Fr) (x:Opd):AV:=(opL fr x).look
def sharedL (t:Nat) (fr:Fr):AV→AV×Fr
  | .list .uniq sz es=>(.list .sh sz es,fr.set t (.list .own sz es))
  | v=>(v.sh,fr)
def tkL (tk:Bool) (fr:Fr):Opd→AV×Fr
  | .t t=>match tk with
    | true=>(fr.getD t .undef,fr.set t (fr.getD t .undef).left)
    | false=>sharedL t fr (fr.getD t .undef)
  | x=>(opL fr x,fr)
def tkAllL (fr:Fr):List Opd→List AV×Fr
  | []=>([],fr)
  | x :: xs=>((tkL true fr x).1 :: (tkAllL (tkL true fr x).2 xs).1,(tkAllL (tkL true fr x).2 xs).2)
def settleL (fr:Fr):List Opd→Fr
  | []=>fr
  | x :: xs=>settleL (tkL false fr x).2 xs
structure ET where
  c:Nat
  ag:Bool
  bytes:Nat
  z:AV
inductive LK where
  | int (k:IntKind)
  | str
  | bool
  deriving DecidableEq
def LK.fits:LK→AV→Bool
  | .int k,.s (.int k' _)=>decide (k=k')
  | .str,.s (.str _)=>true
  | .bool,.s (.bool _)=>true
  | _,_=>false
def fitsL:List LK→List AV→Bool
  | [],[]=>true
  | k :: ks,x :: xs=>k.fits x && fitsL ks xs
  | _,_=>false
inductive BK where
  | sc
  | bl
  | leaf (ls:List LK)
  | ref (k:Nat)
  deriving DecidableEq
inductive KK where
  | one (k:LK)
  | leaf (ls:List LK)
  deriving DecidableEq
inductive CK where
  | int (k:IntKind)
  | str
  | toBytes
  | ofBytes
  deriving DecidableEq
inductive SK where
  | str
  | sl (c:Nat)
  | arr (n c:Nat)
  deriving DecidableEq
inductive IK where
  | arr (n c:Nat)
  | sl (c:Nat)
  deriving DecidableEq
inductive NK where
  | str
  | sl
  | map
  | arr (n:Nat)
  deriving DecidableEq
inductive LOp where
  | mv (tk:Bool) (x:Opd)
  | thaw (t:Nat)
  | frz (e:ET) (x:Opd)
  | pick (c a b:Opd)
  | alloc (hp:Bool) (z:List AV)
  | box (tk hp:Bool) (x:Opd)
  | build (z:List AV) (parts:List (Nat×Nat×Opd))
  | bsl (e:ET) (n:Nat) (parts:List (Nat×Opd))
  | loadA (n:Nat) (x:Opd)
  | load1 (tk:Bool) (x:Opd)
  | store (n:Nat) (p x:Opd)
  | stu (p x:Opd)
  | nilc (x:Opd)
  | bin (op:BinOp) (k:BK) (x y:Opd)
  | un (op:UnOp) (x:Opd)
  | conv (k:CK) (x:Opd)
  | mkfn (f:FuncId) (first caps:List Opd)
  | mkmap (r:Option Opd)
  | mksl (tk hp:Bool) (e:ET) (l c:Opd)
  | slc (k:SK) (x:Opd) (lo hi mx:Option Opd)
  | shift (off:Nat) (x:Opd)
  | part (ag:Option Nat) (off:Nat) (x:Opd)
  | ixa (k:IK) (x i:Opd)
  | ixs (x i:Opd)
  | ixv (n c:Nat) (ag:Bool) (x i:Opd)
  | look (kk:KK) (z:AV) (ok:Bool) (m k:Opd)
  | upd (kk:KK) (m k v:Opd)
  | ext (x:Opd) (i:Nat)
  | len (k:NK) (x:Opd)
  | cap (x:Opd)
  | app (e:ET) (str:Bool) (s x:Opd)
  | cpy (e:ET) (str:Bool) (d x:Opd)
  | del (kk:KK) (m k:Opd)
  | clr (e:ET) (x:Opd)
  | mn (x y:Opd)
  | mx (x y:Opd)
  | call (g:Opd) (args:List Opd)
  | rng (x:Opd)
  | nxt (x:Opd)
  | ent (x:Opd)
def packL (e:ET) (cs:List AV):AV:=match e.ag with
  | true => .agg cs
  | false=>cs.getD 0 .undef
def groupL (e:ET):Nat→List AV→List AV
  | 0,_=>[]
  | n + 1,cs=>packL e (cs.take e.c) :: groupL e n (cs.drop e.c)
def elemsL (e:ET) (x:AV) (σ:St):Option (List AV) :=
  match x with
  | .s .nilS=>some []
  | .s (.str l)=>if e.c=1 then some (l.map fun b => .s (.int .u8 b.toNat)) else none
  | .list _ sz es=>if sz=e.c then some es else none
  | .row r off len _=>if e.ag || e.c == 1 then (readCells σ (.ptr r off) (len * e.c)).map (groupL e len) else none
  | _=>none
def freezeL (e:ET) (v:AV) (σ:St):Option (AV×St) :=
  match v with
  | .row (.stk n) 0 len _ =>
    (readCells σ (.ptr (.stk n) 0) (len * e.c)).bind fun cs =>
      if underL 0 cs∧0 < e.c∧(e.ag || e.c == 1) then some (.list .sh e.c (groupL e len cs),{ σ with stk:=σ.stk.set n [] }) else none
  | .s .nilS=>some (.nilS,σ)
  | _=>none
def fillL (cs:List AV):List (Nat×Nat×AV)→Option (List AV)
  | []=>some cs
  | (off,size,v) :: rest=>if v.cells.length≠size∨off + size > cs.length∨!v.fit then none else fillL (cs.take off ++ v.cells ++ cs.drop (off + size)) rest
def bslL (e:ET) (len:Nat) (parts:List (Nat×AV)):Option AV :=
  if len=0 then (if parts.isEmpty then some (.list .full e.c []) else none) else
  if len * e.c > 2 ^ 24 then none else (fillE e.c (List.replicate len e.z) parts).map (.list .full e.c)
def load1L (tk:Bool) (p:AV) (σ:St):Option (AV×St) :=
  match tk,p with
  | true,.ptr r off=>(boxOf σ r).bind fun cs=>match cs[off]? with
    | some v=>some (v,setBox σ r (splice cs off [v.left]))
    | none=>none
  | _,.ptr r off=>(boxOf σ r).bind fun cs=>match cs[off]? with
    | some v=>some (v.look,σ)
    | none=>none
  | _,.rop (v :: _)=>some (v,σ)
  | _,_=>none
def storeL (n:Nat) (p v:AV) (σ:St):Option St :=
  match p with
  | .ptr r off=>if v.cells.length=n∧n≠0∧v.fit then writeCells σ r off v.cells else none
  | _=>none
def storeUL (p v:AV) (σ:St):Option St :=
  match p with
  | .ptr r off=>if v.fit∧(v.isCell∨v.kept) then (boxOf σ r).bind fun cs=>if cs.length=1∧off=0 then writeCells σ r off [v] else none else none
  | _=>none
def intBin (op:BinOp) (k:IntKind) (a b:Int):Option Sc :=
  match op with
  | .add=>some (.int k (k.wrap (a + b)))
  | .sub=>some (.int k (k.wrap (a - b)))
  | .mul=>some (.int k (k.wrap (a * b)))
  | .quo=>if b=0 then none else some (.int k (k.wrap (a.tdiv b)))
  | .rem=>if b=0 then none else some (.int k (a.tmod b))
  | .and=>some (.int k (k.wrap (BitVec.ofInt k.bits a &&& BitVec.ofInt k.bits b).toNat))
  | .or=>some (.int k (k.wrap (BitVec.ofInt k.bits a ||| BitVec.ofInt k.bits b).toNat))
  | .xor=>some (.int k (k.wrap (BitVec.ofInt k.bits a ^^^ BitVec.ofInt k.bits b).toNat))
  | .andNot=>some (.int k (k.wrap (BitVec.ofInt k.bits a &&& ~~~ BitVec.ofInt k.bits b).toNat))
  | .eql=>some (.bool (decide (a=b)))
  | .neq=>some (.bool (!decide (a=b)))
  | .lss=>some (.bool (decide (a < b)))
  | .leq=>some (.bool (decide (a≤b)))
  | .gtr=>some (.bool (decide (a > b)))
  | .geq=>some (.bool (decide (a≥b)))
  | _=>none
def intShift (op:BinOp) (k:IntKind) (a b:Int):Option Sc :=
  if b < 0 then none else
  match op with
  | .shl=>some (.int k (k.wrap (a * 2 ^ (min b.toNat k.bits))))
  | .shr=>some (.int k (a.fdiv (2 ^ (min b.toNat k.bits))))
  | _=>none
def scBin (op:BinOp) (x y:Sc):Option Sc :=
  match op,x,y with
  | .shl,.int k a,.int _ b=>intShift .shl k a b
  | .shr,.int k a,.int _ b=>intShift .shr k a b
  | op,.int k a,.int k' b=>if k=k' then intBin op k a b else none
  | .eql,.str a,.str b=>some (.bool (decide (a=b)))
  | .neq,.str a,.str b=>some (.bool (!decide (a=b)))
  | _,_,_=>none
def blBin (op:BinOp) (x y:Sc):Option Sc :=
  match op,x,y with
  | .eql,.bool a,.bool b=>some (.bool (decide (a=b)))
  | .neq,.bool a,.bool b=>some (.bool (!decide (a=b)))
  | _,_,_=>none
def cellsEq (a b:List AV):Bool:=AV.beq.go a b
def refEq (k:Nat) (x y:AV):Option Bool :=
  match x.nilKind,y.nilKind with
  | some a,some b=>if a=k∧b=k then some true else none
  | some a,none=>if a=k∧y.refKind=some k then some false else none
  | none,some b=>if b=k∧x.refKind=some k then some false else none
  | none,none=>none
def binL (op:BinOp) (k:BK) (x y:AV):Option AV :=
  match k with
  | .sc=>match x,y with
    | .s a,.s b=>(scBin op a b).map .s
    | _,_=>none
  | .bl=>match x,y with
    | .s a,.s b=>(blBin op a b).map .s
    | _,_=>none
  | .leaf ls=>match x,y with
    | .agg a,.agg b=>if fitsL ls a∧fitsL ls b then (match op with
      | .eql=>some (.bool (cellsEq a b))
      | .neq=>some (.bool (!cellsEq a b))
      | _=>none) else none
    | _,_=>none
  | .ref k=>match op with
    | .eql=>(refEq k x y).map .bool
    | .neq=>(refEq k x y).map fun b => .bool (!b)
    | _=>none
def unL (op:UnOp) (x:AV):Option AV :=
  match op,x with
  | .not,.s (.bool b)=>some (.bool !b)
  | .neg,.s (.int k n)=>some (.s (.int k (k.wrap (0 - n))))
  | .xor,.s (.int k n)=>some (.s (.int k (k.wrap (BitVec.ofInt k.bits (if k.signed then -1 else k.max) ^^^ BitVec.ofInt k.bits n).toNat)))
  | _,_=>none
def convL (k:CK) (x:AV) (σ:St):Option AV :=
  match k,x with
  | .int k,.s (.int _ n)=>some (.s (.int k (k.wrap n)))
  | .str,.s (.str l)=>some (.str l)
  | .toBytes,.s (.str l)=>if l.length < 2 ^ 46 then some (.list .uniq 1 (l.map fun b => .s (.int .u8 b.toNat))) else none
  | .ofBytes,x=>if x.isSlice then ((elemsL ⟨1,false,1,.undef⟩ x σ).bind bytesIn).map .str else none
  | _,_=>none
def sliceL (k:SK) (x:AV) (lo hi mx:Option AV):Option AV :=
  match k,x with
  | .str,.s (.str l) =>
    match mx,bound lo 0,bound hi l.length with
    | none,some a,some b=>if a≤b∧b≤l.length then some (.str ((l.take b).drop a)) else none
    | _,_,_=>none
  | .sl c,.s .nilS =>
    match mx,bound lo 0,bound hi 0 with
    | none,some 0,some 0=>if c≠0 then some .nilS else none
    | _,_,_=>none
  | .sl c,.list fl sz es =>
    if fl = .uniq then none else
    match mx,bound lo 0,bound hi es.length with
    | none,some a,some b=>if a≤b∧b≤es.length∧sz=c then some (.list (if fl = .full∧b=es.length then .full else .sh) sz ((es.take b).drop a)) else none
    | some m,some a,some b=>match hi,bound (some m) 0 with
      | some _,some m=>if a≤b∧b=m∧m≤es.length∧sz=c then some (.list (if fl = .sh∧es=[] then .sh else .full) sz ((es.take b).drop a)) else none
      | _,_=>none
    | _,_,_=>none
  | .sl c,.row r off len cap =>
    match mx,bound lo 0,bound hi len with
    | none,some a,some b=>if a≤b∧b≤cap∧a < cap∧c≠0 then some (.row r (off + a * c) (b - a) (cap - a)) else none
    | some m,some a,some b=>match hi,bound (some m) 0 with
      | some _,some m=>if a=b∧b=m∧m≤cap∧c≠0 then some (.list .full c []) else none
      | _,_=>none
    | _,_,_=>none
  | .arr n c,.ptr r off =>
    match mx,bound lo 0,bound hi n with
    | none,some a,some b=>if a≤b∧b≤n∧a < n∧c≠0 then some (.row r (off + a * c) (b - a) (n - a)) else none
    | _,_,_=>none
  | .arr n c,.rop cs =>
    match mx,bound lo 0,bound hi n with
    | none,some a,some b=>if a≤b∧b≤n∧a < n∧c=1∧n≤cs.length then some (.list .sh 1 ((cs.take b).drop a)) else none
    | _,_,_=>none
  | _,_=>none
def partL (ag:Option Nat) (cs:List AV) (off:Nat):Option AV :=
  match ag with
  | some n=>if off + n≤cs.length∧n≠0 then some (.agg ((cs.drop off).take n)) else none
  | none=>cs[off]?
def indexAddrL (k:IK) (x ix:AV):Option AV :=
  match ix with
  | .s (.int _ i) =>
    match k,x with
    | .arr n c,x=>if 0≤i∧i < n∧c≠0 then shift x (i.toNat * c) else none
    | .sl c,.list fl sz es=>if fl≠.uniq∧sz=c∧sz≠0∧0≤i∧i < es.length then some (.rop (es.getD i.toNat .undef).cells) else none
    | .sl c,.row r off len _=>if 0≤i∧i < len∧c≠0 then some (.ptr r (off + i.toNat * c)) else none
    | _,_=>none
  | _=>none
def lenL (k:NK) (x:AV) (σ:St):Option Nat :=
  match k,x with
  | .str,.s (.str l)=>some l.length
  | .sl,.s .nilS=>some 0
  | .sl,.list _ _ es=>some es.length
  | .sl,.row _ _ len _=>some len
  | .sl,.lenv n=>some n
  | .map,.s .nilM=>some 0
  | .map,.map h=>match σ.heap[h]? with
    | some (.map es _)=>some es.length
    | _=>none
  | .arr n,.agg _=>some n
  | _,_=>none
def capL (x:AV):Option Nat :=
  match x with
  | .s .nilS=>some 0
  | .list .full _ es=>some es.length
  | _=>none
def srcL (str:Bool) (x:AV):Bool:=match str with
  | true=>x.isStr
  | false=>x.isSlice
def appItems (e:ET) (s:AV) (items:List AV) (σ:St):Option (AV×St) :=
  match s with
  | .s .nilS =>
    if items.isEmpty then some (.nilS,σ) else
    if items.length * e.bytes≤2 ^ 48 then some (.list .uniq e.c items,σ) else none
  | .list fl sz es =>
    if sz≠e.c then none else
    if items.isEmpty then some (.list fl sz es,σ) else
    match fl with
    | .sh=>none
    | .full=>if es.isEmpty then (if items.length * e.bytes≤2 ^ 48 then some (.list .uniq sz items,σ) else none)
      else if 2 * (es.length + items.length) * e.bytes≤2 ^ 48 then some (.list .own sz (es ++ items),σ) else none
    | .own=>if 2 * (es.length + items.length) * e.bytes≤2 ^ 48 then some (.list .own sz (es ++ items),σ) else none
    | .uniq=>if 2 * (es.length + items.length) * e.bytes≤2 ^ 48 then some (.list .uniq sz (es ++ items),σ) else none
  | .row r off len cap =>
    if len + items.length≤cap∧items.isEmpty=false then
      (writeCells σ r (off + len * e.c) (items.flatMap AV.cells)).map fun σ=>(.row r off (len + items.length) cap,σ)
    else none
  | _=>none
def appendL (e:ET) (str:Bool) (s x:AV) (σ:St):Option (AV×St) :=
  if srcL str x then
    (elemsL e x σ).bind fun items=>if AV.under.go 0 items then appItems e s items σ else none
  else none
def copyL (e:ET) (str:Bool) (d x:AV) (σ:St):Option (AV×St) :=
  if srcL str x then
    match d,elemsL e x σ with
    | .row r off len _,some items =>
      (writeCells σ r off ((items.take len).flatMap AV.cells)).map fun σ=>(.i (items.take len).length,σ)
    | _,_=>none
  else none
def KK.fits:KK→AV→Bool
  | .one k,x=>k.fits x
  | .leaf ls,.agg cs=>fitsL ls cs
  | .leaf _,_=>false
def keyEqL (kk:KK) (a b:AV):Option Bool:=if kk.fits a∧kk.fits b then some (AV.beq a b) else none
def findL (kk:KK) (k:AV):List Entry→Nat→Option (Option (Nat×Entry))
  | [],_=>some none
  | e :: es,i=>match keyEqL kk k e.key with
    | some true=>some (some (i,e))
    | some false=>findL kk k es (i + 1)
    | none=>none
def lookupL (kk:KK) (z:AV) (ok:Bool) (m k:AV) (σ:St):Option AV :=
  if kk.fits k then
    match mapOf σ m with
    | none=>none
    | some (es,_)=>match findL kk k es 0 with
      | some (some (_,e))=>some (if ok then .tup [e.val,.bool true] else e.val)
      | some none=>some (if ok then .tup [z,.bool false] else z)
      | none=>none
  else none
def updateL (kk:KK) (m k v:AV) (σ:St):Option St :=
  if kk.fits k∧AV.under 0 v then
    match m with
    | .map h=>match mapOf σ (.map h) with
      | none=>none
      | some (es,c)=>match findL kk k es 0 with
        | some (some (i,e))=>some (setMap σ h (es.set i { e with key:=k,val:=v }) c)
        | some none=>some (setMap σ h (es ++ [⟨k,v,c⟩]) (c + 1))
        | none=>none
    | _=>none
  else none
def deleteL (kk:KK) (m k:AV) (σ:St):Option St :=
  if kk.fits k then
    match m with
    | .s .nilM=>some σ
    | .map h=>match mapOf σ (.map h) with
      | none=>none
      | some (es,c)=>match findL kk k es 0 with
        | some (some (i,_))=>some (setMap σ h (es.eraseIdx i) c)
        | some none=>some (setMap σ h es c)
        | none=>none
    | _=>none
  else none
def clearL (e:ET) (v:AV) (σ:St):Option St :=
  match v with
  | .row r off len _=>writeCells σ r off (List.replicate len e.z.cells).flatten
  | .s .nilS=>some σ
  | .list _ _ []=>some σ
  | _=>none
def mkslL (asList heap:Bool) (e:ET) (len cap:AV) (σ:St):Option (AV×St) :=
  match len,cap with
  | .s (.int _ l),.s (.int _ c) =>
    if 0≤l∧l≤c∧c≤2 ^ 32∧e.bytes * c≤2 ^ 47 then
      match asList with
      | true=>some (.list .uniq e.c (List.replicate l.toNat e.z),σ)
      | false=>(newBox heap (List.replicate c.toNat e.z.cells).flatten σ).map fun (r,σ)=>(.row r 0 l.toNat c.toNat,σ)
    else none
  | _,_=>none
def readA (σ:St) (p:AV) (n:Nat):Option AV:=(readCells σ p n).map .agg
def intOpt:AV→Option (IntKind×Int)
  | .s (.int k a)=>some (k,a)
  | _=>none
def evL (o:LOp) (fr:Fr) (σ:St):Option (AV×Fr×St) :=
  match o with
  | .mv tk x=>some ((tkL tk fr x).1,(tkL tk fr x).2,σ)
  | .thaw t=>AM.thaw fr (.tmp t) σ
  | .frz e x=>(freezeL e (seL fr x) σ).map fun r=>(r.1,fr,r.2)
  | .pick c a b=>match seL fr c with
    | .s (.bool c)=>some ((if c then seL fr a else seL fr b),fr,σ)
    | _=>none
  | .alloc hp z=>(newBox hp z σ).map fun r=>(.ptr r.1 0,fr,r.2)
  | .box tk hp x=>if (tkL tk fr x).1.fit then (newBox hp (tkL tk fr x).1.calm.cells σ).map fun q=>(.ptr q.1 0,(tkL tk fr x).2,q.2) else none
  | .build z parts=>(fillL z (parts.map fun p=>(p.1,p.2.1,seL fr p.2.2))).map fun cs=>(.agg cs,fr,σ)
  | .bsl e n parts=>(bslL e n (parts.map fun p=>(p.1,seL fr p.2))).map fun v=>(v,fr,σ)
  | .loadA n x=>(readA σ (seL fr x) n).map fun v=>(v,fr,σ)
  | .load1 tk x=>(load1L tk (seL fr x) σ).map fun r=>(r.1,fr,r.2)
  | .store n p x=>(storeL n (seL (tkL true fr x).2 p) (tkL true fr x).1.calm σ).map fun σ=>(.undef,(tkL true fr x).2,σ)
  | .stu p x=>(storeUL (seL (tkL true fr x).2 p) (tkL true fr x).1 σ).map fun σ=>(.undef,(tkL true fr x).2,σ)
  | .nilc x=>match seL fr x with
    | .ptr r o=>some (.ptr r o,fr,σ)
    | .rop cs=>some (.rop cs,fr,σ)
    | .map h=>some (.map h,fr,σ)
    | .fn (.func g) a c=>some (.fn (.func g) a c,fr,σ)
    | _=>none
  | .bin op k x y=>(binL op k (seL fr x) (seL fr y)).map fun v=>(v,fr,σ)
  | .un op x=>(unL op (seL fr x)).map fun v=>(v,fr,σ)
  | .conv k x=>(convL k (seL fr x) σ).map fun v=>(v,fr,σ)
  | .mkfn f first caps=>some (.fn (.func f) (first.map (seL fr)) (caps.map (seL fr)),fr,σ)
  | .mkmap r=>match r with
    | none=>some (.map σ.heap.length,fr,{ σ with heap:=σ.heap ++ [.map [] 0] })
    | some x=>match seL fr x with
      | .s (.int ..)=>some (.map σ.heap.length,fr,{ σ with heap:=σ.heap ++ [.map [] 0] })
      | _=>none
  | .mksl tk hp e l c=>(mkslL tk hp e (seL fr l) (seL fr c) σ).map fun r=>(r.1,fr,r.2)
  | .slc k x lo hi mx=>(sliceL k (seL fr x) (lo.map (seL fr)) (hi.map (seL fr)) (mx.map (seL fr))).map fun v=>(v,fr,σ)
  | .shift off x=>(shift (seL fr x) off).map fun v=>(v,fr,σ)
  | .part ag off x=>match seL fr x with
    | .agg cs=>(partL ag cs off).map fun v=>(v,fr,σ)
    | _=>none
  | .ixa k x i=>(indexAddrL k (seL fr x) (seL fr i)).map fun v=>(v,fr,σ)
  | .ixs x i=>match seL fr x,seL fr i with
    | .s (.str l),.s (.int _ i)=>if 0≤i∧i < l.length then some (.s (.int .u8 (l.getD i.toNat 0).toNat),fr,σ) else none
    | _,_=>none
  | .ixv n c ag x i=>match seL fr x,seL fr i with
    | .agg cs,.s (.int _ i)=>if 0≤i∧i < n∧c≠0 then (partL (if ag then some c else none) cs (i.toNat * c)).map fun v=>(v,fr,σ) else none
    | _,_=>none
  | .look kk z ok m k=>(lookupL kk z ok (seL fr m) (seL fr k) σ).map fun v=>(v,fr,σ)
  | .upd kk m k v=>(updateL kk (seL fr m) (seL fr k) (seL fr v) σ).map fun σ=>(.undef,fr,σ)
  | .ext x i=>match seL fr x with
    | .tup vs=>(vs[i]?).map fun v=>(v,fr,σ)
    | _=>none
  | .len k x=>(lenL k (seL fr x) σ).map fun (n:Nat)=>(AV.i n,fr,σ)
  | .cap x=>(capL (seL fr x)).map fun (n:Nat)=>(AV.i n,fr,σ)
  | .app e str s x=>(appendL e str (tkL true fr s).1 (seL (tkL true fr s).2 x) σ).map fun r=>(r.1,(tkL true fr s).2,r.2)
  | .cpy e str d x=>(copyL e str (seL fr d) (seL fr x) σ).map fun r=>(r.1,fr,r.2)
  | .del kk m k=>(deleteL kk (seL fr m) (seL fr k) σ).map fun σ=>(.tup [],fr,σ)
  | .clr e x=>(clearL e (seL fr x) σ).map fun σ=>(.tup [],fr,σ)
  | .mn x y=>match intOpt (seL fr x),intOpt (seL fr y) with
    | some (k,a),some (k',b)=>if k=k' then some (.s (.int k (if b < a then b else a)),fr,σ) else none
    | _,_=>none
  | .mx x y=>match intOpt (seL fr x),intOpt (seL fr y) with
    | some (k,a),some (k',b)=>if k=k' then some (.s (.int k (if b > a then b else a)),fr,σ) else none
    | _,_=>none
  | .call .. | .rng _ | .nxt _ | .ent _=>none
structure LStep where
  dst:Option Nat
  guard:Option (Nat×Bool)
  op:LOp
def settledL:LOp→List Opd
  | .build _ ps=>ps.map (·.2.2)
  | .bsl _ _ ps=>ps.map (·.2)
  | .upd _ _ _ v=>[v]
  | .app _ _ _ x=>[x]
  | .conv _ x=>[x]
  | .slc _ x _ _ _=>[x]
  | .ixa _ x _=>[x]
  | .len _ x=>[x]
  | .cap x=>[x]
  | _=>[]
def guardL (fr:Fr):Option (Nat×Bool)→Option Bool
  | none=>some true
  | some (d,want)=>match fr[d]? with
    | some (.s (.bool b))=>some (b == want)
    | some (.tup [])=>some false
    | _=>none
def doL (C:CallW) (o:LOp) (fr:Fr) (σ:St) (K:AV→Fr→St→Prop):Prop :=
  match o with
  | .rng x=>match seL fr x with
    | .map h=>match mapOf σ (.map h) with
      | some (_,c)=>K (.ptr (.heap σ.heap.length) 0) fr { σ with heap:=σ.heap ++ [.iter ⟨some h,c,[],c⟩] }
      | none=>False
    | .s .nilM=>K (.ptr (.heap σ.heap.length) 0) fr { σ with heap:=σ.heap ++ [.iter ⟨none,0,[],0⟩] }
    | _=>False
  | .nxt x=>match iterOf σ (seL fr x) with
    | some (n,i)=>match i.map with
      | none=>K (.tup [.bool false]) fr σ
      | some h=>match mapOf σ (.map h) with
        | some (es, c) => (i.seen = [] ∨ es = [] ∨ ∃ e ∈ es, e.born < i.stepped) ∧
            ((∀e∈es,e.born∈i.seen∨i.since≤e.born)→K (.tup [.bool false]) fr σ) ∧
            ∀e∈es,e.born∉i.seen→K (.tup [.bool true,e.key,e.val]) fr (setHeap σ n (.iter { i with seen:=i.seen ++ [e.born],stepped:=c }))
        | none=>False
    | none=>False
  | .ent x=>match iterOf σ (seL fr x) with
    | some (n,i)=>match i.map,i.seen.getLast? with
      | some h,some b=>match mapOf σ (.map h) with
        | some (es,c)=>c=i.stepped∧match es.find? (fun e=>e.born == b) with
          | some e=>K (.tup [e.key,e.val]) fr σ
          | none=>False
        | none=>False
      | _,_=>False
    | none=>False
  | .call g args=>match seL fr g with
    | .fn (.func h) first captured=>C (.fn h) (first ++ (tkAllL fr args).1 ++ captured) σ fun v σ'=>K v (tkAllL fr args).2 σ'
    | .yield h=>C (.yield h) (tkAllL fr args).1 σ fun v σ'=>K v (tkAllL fr args).2 σ'
    | _=>False
  | o=>match evL o fr σ with
    | some r=>K r.1 r.2.1 r.2.2
    | none=>False
def stepL (C:CallW) (s:LStep) (fr:Fr) (σ:St) (K:Fr→St→Prop):Prop :=
  match guardL fr s.guard with
  | some g=>(g=true→doL C s.op (settleL fr (settledL s.op)) σ fun v fr' σ'=>K (putA s.dst v fr') σ')∧(g=false→K (putA s.dst (.tup []) fr) σ)
  | none=>False
def maybeS (s:LStep) (fr:Fr):Bool :=
  match s.op with
  | .bin op (.ref 1) x y=>isEq op && maybeNil (seL fr x) (seL fr y) && (match guardL fr s.guard with
    | some true=>true
    | _=>false)
  | _=>false
def seqL (C:CallW):List LStep→Fr→St→(Fr→St→Prop)→Prop
  | [],fr,σ,K=>K fr σ
  | s :: rest,fr,σ,K=>match maybeS s fr with
    | true=>∀b,seqL C rest (putA s.dst (.bool b) fr) σ K
    | false=>stepL C s fr σ fun fr σ=>seqL C rest fr σ K
def calmL (fr:Fr):Opd→Bool
  | .t t => !(fr.getD t .undef).isUniq
  | _=>true
def LOp.opds:LOp→List Opd
  | .mv _ x | .frz _ x | .box _ _ x | .loadA _ x | .load1 _ x | .nilc x | .un _ x | .conv _ x | .shift _ x | .part _ _ x | .ext x _ | .len _ x | .cap x | .clr _ x | .rng x | .nxt x | .ent x=>[x]
  | .thaw t=>[.t t]
  | .pick a b c=>[a,b,c]
  | .alloc .. => []
  | .build _ ps=>ps.map (·.2.2)
  | .bsl _ _ ps=>ps.map (·.2)
  | .store _ p x | .stu p x=>[p,x]
  | .bin _ _ x y | .ixa _ x y | .ixs x y | .ixv _ _ _ x y | .look _ _ _ x y | .app _ _ x y | .cpy _ _ x y | .del _ x y | .mn x y | .mx x y | .mksl _ _ _ x y=>[x,y]
  | .mkfn _ a b=>a ++ b
  | .mkmap r=>r.toList
  | .slc _ x a b c=>x :: (a.toList ++ b.toList ++ c.toList)
  | .upd _ m k v=>[m,k,v]
  | .call g args=>g :: args
def depL (fr:Fr):LOp→Bool
  | .loadA _ x | .load1 _ x=>match seL fr x with
    | .rop _=>false
    | _=>true
  | .look .. => true
  | .conv _ x=>match seL fr x with
    | .row .. => true
    | _=>false
  | .len _ x | .cap x=>match seL fr x with
    | .map _=>true
    | _=>false
  | _=>false
structure LChk where
  i:Nat
  s:LStep
  fr:Fr
  v:AV
def readL (s:LStep) (fr:Fr) (σ:St):Option AV:=if s.op.opds.all (calmL fr) then (evL s.op fr σ).map (·.1) else none
def LChk.ok (c:LChk) (σ:St):Bool :=
  match guardL c.fr c.s.guard with
  | some true=>sameV (readL c.s c.fr σ) c.v
  | some false=>AV.beq (.tup []) c.v
  | none=>false
inductive LT where
  | done
  | rd (s:LStep) (i:Nat) (chk:Bool) (rest:LT)
  | mv (s:LStep) (drop:List Nat) (rest alt:LT)
  | stop
def planL (C:CallW):LT→Fr→St→List LChk→(Fr→St→Prop)→Prop
  | .done,fr,σ,_,K=>K fr σ
  | .rd s i ck rest,fr,σ,chk,K=>match guardL fr s.guard with
    | some g => (g = true → match readL s fr σ with
        | some v=>planL C rest (putA s.dst v fr) σ (if ck && depL fr s.op then ⟨i,s,fr,v⟩ :: chk else chk) K
        | none=>False)∧(g=false→planL C rest (putA s.dst (.tup []) fr) σ chk K)
    | none=>False
  | .mv s drop rest alt,fr,σ,chk,K =>
    (stepL C s fr σ fun fr' σ'=>(chk.filter fun c => !drop.contains c.i).all (fun c=>c.ok σ')=true∧planL C rest fr' σ' (chk.filter fun c => !drop.contains c.i) K) ∧
    planL C alt fr σ chk K
  | .stop,_,_,_,_=>True
inductive LCode where
  | skip
  | sq (l:List LStep)
  | tree (t:LT)
  | seq (a b:LCode)
  | cond (c:Opd) (a b:LCode)
  | block (id:Nat) (b:LCode)
  | loop (mask:List Bool) (b:LCode)
  | exit (id:Nat)
  | ret
  | rfun (g:Opd) (f:FuncId) (ps:Array Tmp) (azz bd:Code)
  | bad
def execL (C:CallW) (P:Program) (rd:Bool):LCode→Fr→St→KC→Prop
  | .skip,fr,σ,K=>K .normal fr σ
  | .sq l,fr,σ,K=>seqL C l fr σ (K .normal)
  | .tree t,fr,σ,K=>planL C t fr σ [] (K .normal)
  | .seq a b,fr,σ,K=>execL C P rd a fr σ (roundK (fun fr σ=>execL C P rd b fr σ K) K)
  | .cond c a b,fr,σ,K=>match opL fr c with
    | .s (.bool x)=>(x=true→execL C P rd a fr σ K)∧(x=false→execL C P rd b fr σ K)
    | _=>False
  | .block id b,fr,σ,K=>execL C P rd b fr σ (blockK id K)
  | .loop mask b,fr,σ,K=>loopW (execL C P rd b) mask σ.stk.length fr σ K
  | .exit id,fr,σ,K=>K (.exit id) fr σ
  | .ret,fr,σ,K=>K .ret fr σ
  | .rfun g f ps a b,fr,σ,K=>rd=false ∧
    match seL fr g with
    | .fn (.func h) first captured=>hasBody P h=true ∧
      C (.fn h) (first ++ [.yield σ.heap.length] ++ captured) { σ with heap:=σ.heap ++ [.loop { fid:=f,fr:=fr.map lasting,params:=ps.toList,assign:=a,body:=b,ready:=true,pending:=none }] }
        fun _ σ'=>match σ'.heap[σ.heap.length]? with
          | some (.loop l)=>(l.ready || l.pending.isSome)=true∧K (l.pending.getD .normal) fr { σ' with heap:=σ'.heap.set σ.heap.length .dead }
          | _=>False
    | _=>False
  | .bad,_,_,_=>False
inductive LR where
  | t (n:Nat)
  | one (a:Nat)
  | many (a n:Nat)
structure LFn where
  ntmps:Nat
  res:List LR
  code:LCode
def resL (fr:Fr) (σ:St):LR→Option AV
  | .t n=>some (fr.getD n .undef)
  | .one a=>(load1L false (fr.getD a .undef) σ).map (·.1)
  | .many a n=>readA σ (fr.getD a .undef) n
def ressL (fr:Fr) (σ:St):List LR→Option (List AV)
  | []=>some []
  | r :: rs=>match resL fr σ r,ressL fr σ rs with
    | some v,some vs=>some (v :: vs)
    | _,_=>none
def endL (base:Nat) (rs:List LR) (K:AV→St→Prop) (fr:Fr) (σ:St):Prop :=
  match ressL fr σ rs with
  | some [v]=>v.under base=true∧K v { σ with stk:=σ.stk.take base }
  | some vs=>underL base vs=true∧K (.tup (vs.map AV.look)) { σ with stk:=σ.stk.take base }
  | none=>False
def finL (base:Nat) (rs:List LR) (K:AV→St→Prop):KC:=fun e fr σ=>match e with
  | .exit _=>False
  | .normal=>endL base rs K fr σ
  | .ret=>endL base rs K fr σ
def runL (C:CallW) (P:Program) (fn:LFn) (args:List AV) (σ:St) (K:AV→St→Prop):Prop :=
  execL C P false fn.code (args ++ List.replicate (fn.ntmps - args.length) .undef) σ (finL σ.stk.length fn.res K)
def etOf (P:Program) (e:TypeId):Option ET:=if elemOK P e then (zeroA P e).map fun z=>⟨P.cellsOf e,isAgg P e,bytesOf P e,z⟩ else none
def leavesIn (P:Program):Nat→TypeId→Option (List LK)
  | 0,_=>none
  | d + 1,t=>match P.underlying t with
    | some (.int k)=>some [.int k]
    | some .string=>some [.str]
    | some .bool=>some [.bool]
    | some (.struct fs)=>if P.stoodInHeld t then none else
      fs.toList.foldl (fun acc f=>match acc,leavesIn P d f.type with
        | some l,some m=>if f.name≠"_"∧f.offset=l.length∧P.cellsOf f.type=m.length then some (l ++ m) else none
        | _,_=>none) (some [])
    | some (.array n e)=>match leavesIn P d e with
      | some m=>if P.cellsOf e=m.length∧m≠[] then some (List.replicate n m).flatten else none
      | none=>none
    | _=>none
def kkOf (P:Program) (t:TypeId):Option KK :=
  match P.underlying t with
  | some (.int k)=>some (.one (.int k))
  | some .string=>some (.one .str)
  | some .bool=>some (.one .bool)
  | some (.struct _) | some (.array _ _)=>(leavesIn P 10 t).map .leaf
  | _=>none
def bkOf (P:Program) (t:TypeId):Option BK :=
  match P.underlying t with
  | some (.int _) | some .string=>some .sc
  | some .bool=>some .bl
  | some (.struct _) | some (.array _ _)=>if P.eqGuardType P.depth t then none else (leavesIn P 10 t).map .leaf
  | some (.pointer _)=>some (.ref 0)
  | some (.slice _)=>some (.ref 1)
  | some (.map ..)=>some (.ref 2)
  | some (.func ..)=>some (.ref 3)
  | _=>none
def srcKind (P:Program) (t:TypeId):Option Bool :=
  match P.underlying t with
  | some .string=>some true
  | some (.slice _)=>some false
  | _=>none
def sliceET (P:Program) (t:TypeId):Option ET :=
  match P.underlying t with
  | some (.slice e)=>etOf P e
  | _=>none
def mapKinds (P:Program) (t:TypeId):Option (KK×AV) :=
  match P.underlying t with
  | some (.map k e)=>match kkOf P k,zeroA P e with
    | some kk,some z=>some (kk,z)
    | _,_=>none
  | _=>none
def skOf (P:Program) (t:TypeId):Option SK :=
  match P.underlying t with
  | some .string=>some .str
  | some (.slice e)=>some (.sl (P.cellsOf e))
  | some (.array n e)=>some (.arr n (P.cellsOf e))
  | _=>none
def ikOf (P:Program) (t:TypeId):Option IK :=
  match P.underlying t with
  | some (.array n e)=>some (.arr n (P.cellsOf e))
  | some (.slice e)=>some (.sl (P.cellsOf e))
  | _=>none
def nkOf (P:Program) (t:TypeId):Option NK :=
  match P.underlying t with
  | some .string=>some .str
  | some (.slice _)=>some .sl
  | some (.map ..)=>some .map
  | some (.array n _)=>some (.arr n)
  | _=>none
def lowParts (places:Nat→Option (Nat×Nat)):List (Nat×Operand)→Option (List (Nat×Nat×Opd))
  | []=>some []
  | (i,x) :: rest=>match places i,lowParts places rest with
    | some (off,size),some l=>some ((off,size,Opd.of x) :: l)
    | _,_=>none
def lowOp (P:Program) (cfg:Cfg) (f:FuncId) (o:Oper):Option LOp :=
  let d:=o.dst.getD 0
  match o.op with
  | .move x => if cfg.thaw f d then (match x with
      | .tmp t=>some (.thaw t)
      | _=>none)
    else if cfg.freeze f d then (sliceET P o.type).map fun e => .frz e (Opd.of x)
    else some (.mv (cfg.take f d) (Opd.of x))
  | .assign x=>if cfg.freeze f d then (sliceET P o.type).map fun e => .frz e (Opd.of x) else some (.mv true (Opd.of x))
  | .pick c a b=>some (.pick (Opd.of c) (Opd.of a) (Opd.of b))
  | .alloc t=>(zeroA P t).map fun z => .alloc (cfg.heap f d) z.cells
  | .box _ x=>some (.box (cfg.take f d) (cfg.heap f d) (Opd.of x))
  | .build t parts=>match zeroA P t with
    | none=>none
    | some z=>match structPlaces P t with
      | some places=>(lowParts (fun i=>places[i]?) parts.toList).map (.build z.cells)
      | none=>match arrayCells P t with
        | some n=>(lowParts (fun i=>some (i * n,n)) parts.toList).map (.build z.cells)
        | none=>none
  | .buildSlice t n parts=>(sliceET P t).map fun e => .bsl e n (parts.toList.map fun (i,x)=>(i,Opd.of x))
  | .load t x=>match aggOf P t with
    | some true=>if P.cellsOf t=0 then none else some (.loadA (P.cellsOf t) (Opd.of x))
    | some false=>some (.load1 (cfg.take f d) (Opd.of x))
    | none=>none
  | .store t p x=>if (cfg.keep f && oneT P t)=true then some (.stu (Opd.of p) (Opd.of x)) else some (.store (P.cellsOf t) (Opd.of p) (Opd.of x))
  | .nilCheck x=>some (.nilc (Opd.of x))
  | .binOp op t x y _=>(bkOf P t).map fun k => .bin op k (Opd.of x) (Opd.of y)
  | .unOp op _ x=>some (.un op (Opd.of x))
  | .convert a b x=>match P.underlying a,P.underlying b with
    | some _,some (.int k)=>some (.conv (.int k) (Opd.of x))
    | some .string,some .string=>some (.conv .str (Opd.of x))
    | some .string,some (.slice e)=>match P.underlying e with
      | some (.int .u8)=>if elemOK P e∧P.cellsOf e=1 then some (.conv .toBytes (Opd.of x)) else none
      | _=>none
    | some (.slice e),some .string=>match P.underlying e with
      | some (.int .u8)=>if P.cellsOf e=1 then some (.conv .ofBytes (Opd.of x)) else none
      | _=>none
    | _,_=>none
  | .makeFunc fn first captured=>match fn with
    | .func g=>some (.mkfn g (first.toList.map Opd.of) (captured.toList.map Opd.of))
    | _=>none
  | .makeMap t r=>match r with
    | none=>some (.mkmap none)
    | some x=>match P.underlying t with
      | some (.map ..)=>some (.mkmap (some (Opd.of x)))
      | _=>none
  | .makeSlice t l c=>(sliceET P t).map fun e => .mksl (cfg.take f d) (cfg.heap f d) e (Opd.of l) (Opd.of c)
  | .slice t x lo hi mx=>(skOf P t).map fun k => .slc k (Opd.of x) (lo.map Opd.of) (hi.map Opd.of) (mx.map Opd.of)
  | .fieldAddr s x i=>(fieldOf P s i).bind fun q=>if P.cellsOf q.type=0 then none else some (.shift q.offset (Opd.of x))
  | .field s x i=>(fieldOf P s i).bind fun q=>match aggOf P q.type with
    | some true=>if P.cellsOf q.type=0 then none else some (.part (some (P.cellsOf q.type)) q.offset (Opd.of x))
    | some false=>some (.part none q.offset (Opd.of x))
    | none=>none
  | .indexAddr t x ix=>(ikOf P t).map fun k => .ixa k (Opd.of x) (Opd.of ix)
  | .index t x ix=>match P.underlying t with
    | some .string=>some (.ixs (Opd.of x) (Opd.of ix))
    | some (.array n e)=>(aggOf P e).map fun ag => .ixv n (P.cellsOf e) ag (Opd.of x) (Opd.of ix)
    | _=>none
  | .lookup t x ix ok=>(mapKinds P t).map fun q => .look q.1 q.2 ok (Opd.of x) (Opd.of ix)
  | .mapUpdate t m k v | .insert t m k v=>(mapKinds P t).map fun q => .upd q.1 (Opd.of m) (Opd.of k) (Opd.of v)
  | .extract x i=>some (.ext (Opd.of x) i)
  | .range t x=>match P.underlying t with
    | some (.map ..)=>some (.rng (Opd.of x))
    | _=>none
  | .next x false=>some (.nxt (Opd.of x))
  | .entry x=>some (.ent (Opd.of x))
  | .call c=>match c.callee with
    | .value g=>some (.call (Opd.of g) (c.args.toList.map Opd.of))
    | .builtin .len=>match c.argTypes.toList,c.args.toList with
      | [t],[x]=>(nkOf P t).map fun k => .len k (Opd.of x)
      | _,_=>none
    | .builtin .cap=>match c.argTypes.toList,c.args.toList with
      | [t],[x]=>match P.underlying t with
        | some (.slice _)=>some (.cap (Opd.of x))
        | _=>none
      | _,_=>none
    | .builtin .append=>match c.argTypes.toList,c.args.toList with
      | [t,tx],[s,x]=>match sliceET P t,srcKind P tx with
        | some e,some b=>some (.app e b (Opd.of s) (Opd.of x))
        | _,_=>none
      | _,_=>none
    | .builtin .copy=>match c.argTypes.toList,c.args.toList with
      | [t,tx],[d,x]=>match sliceET P t,srcKind P tx with
        | some e,some b=>some (.cpy e b (Opd.of d) (Opd.of x))
        | _,_=>none
      | _,_=>none
    | .builtin .delete=>match c.argTypes.toList,c.args.toList with
      | t :: _,[m,k]=>(mapKinds P t).map fun q => .del q.1 (Opd.of m) (Opd.of k)
      | _,_=>none
    | .builtin .clear=>match c.argTypes.toList,c.args.toList with
      | [t],[x]=>(sliceET P t).map fun e => .clr e (Opd.of x)
      | _,_=>none
    | .builtin .min=>match c.args.toList with
      | [x,y]=>some (.mn (Opd.of x) (Opd.of y))
      | _=>none
    | .builtin .max=>match c.args.toList with
      | [x,y]=>some (.mx (Opd.of x) (Opd.of y))
      | _=>none
    | _=>none
  | _=>none
def lowGuard (ops:Array Oper):Option (Nat×Bool)→Option (Option (Nat×Bool))
  | none=>some none
  | some (j,want)=>((ops[j]?).bind (·.dst)).map fun d=>some (d,want)
def lowStep (P:Program) (cfg:Cfg) (f:FuncId) (ops:Array Oper) (i:Nat):Option LStep :=
  match ops[i]? with
  | none=>none
  | some o=>match lowGuard ops o.guard,lowOp P cfg f o with
    | some g,some l=>some ⟨o.dst,g,l⟩
    | _,_=>none
def lowSteps (P:Program) (cfg:Cfg) (f:FuncId) (ops:Array Oper):List Nat→Option (List LStep)
  | []=>some []
  | i :: rest=>match lowStep P cfg f ops i,lowSteps P cfg f ops rest with
    | some s,some l=>some (s :: l)
    | _,_=>none
def PT.movers:PT→List Nat
  | .rd _ rest=>rest.movers
  | .mv i rest alt=>i :: (rest.movers ++ alt.movers)
  | _=>[]
def lowTree (P:Program) (cfg:Cfg) (f:FuncId) (ops:Array Oper):PT→Option LT
  | .done=>some .done
  | .rd i rest=>if isReader cfg f ops i then match lowStep P cfg f ops i,lowTree P cfg f ops rest with
    | some s,some t=>some (.rd s i (rest.movers.any fun j => !hangs ops j i) t)
    | _,_=>none
    else none
  | .mv i rest alt=>match lowStep P cfg f ops i,lowTree P cfg f ops rest,lowTree P cfg f ops alt with
    | some s,some t,some u=>some (.mv s ((List.range ops.size).filter fun k=>hangs ops i k) t u)
    | _,_,_=>none
  | .stop=>some .stop
def lowCode (P:Program) (cfg:Cfg) (tr:Trees) (f:FuncId):Nat→Code→LCode
  | _,.skip => .skip
  | _,.region _ ops false=>match lowSteps P cfg f ops (List.range ops.size) with
    | some l => .sq l
    | none => .bad
  | _,.region id ops true=>if isStop (tr f id) then .bad else match lowTree P cfg f ops (tr f id) with
    | some t => .tree t
    | none => .bad
  | k,.seq a b => .seq (lowCode P cfg tr f k a) (lowCode P cfg tr f k b)
  | k,.cond c a b => .cond (Opd.of c) (lowCode P cfg tr f k a) (lowCode P cfg tr f k b)
  | _,.block id b => .block id (lowCode P cfg tr f id b)
  | k,.loop b => .loop (cfg.mask f k) (lowCode P cfg tr f k b)
  | _,.exit id => .exit id
  | _,.ret => .ret
  | _,.rangeFunc g ps a b => .rfun (Opd.of g) f ps a b
  | _,_ => .bad
def lowRes (P:Program):ResultVar→Option LR
  | .tmp t=>some (.t t)
  | .cell a t=>match aggOf P t with
    | some true=>if P.cellsOf t=0 then none else some (.many a (P.cellsOf t))
    | some false=>some (.one a)
    | none=>none
def lowFn (P:Program) (cfg:Cfg) (tr:Trees) (f:FuncId):Option LFn :=
  match P.funcs[f]? with
  | some fn=>match fn.body,fn.results.toList.mapM (lowRes P) with
    | some c,some rs=>some ⟨fn.ntmps,rs,lowCode P cfg tr f 0 c⟩
    | _,_=>none
  | none=>none
end Go.AM
namespace Go.AM
open Go
section
variable {P:Program}
theorem val_bind {α β:Type}:∀(s:Sem α) (f:α→Sem β),val P (s >>= f)=(val P s).bind fun a=>val P (f a)
  | .pure a,f=>rfl
  | .program k,f=>by
    show val P ((k P).bind f)=_
    exact val_bind (k P) f
  | .load ..,f=>rfl
  | .store ..,f=>rfl
  | .new ..,f=>rfl
  | .shape ..,f=>rfl
  | .freeze ..,f=>rfl
  | .frozen ..,f=>rfl
  | .getObj ..,f=>rfl
  | .setObj ..,f=>rfl
  | .choose ..,f=>rfl
  | .sys ..,f=>rfl
  | .mark ..,f=>rfl
  | .halt ..,f=>rfl
theorem val_pure {α:Type} (a:α):val P (pure a:Sem α)=some a:=rfl
theorem val_program:val P program=some P:=rfl
theorem val_underlying {t:TypeId} {d:TypeDesc} (h:P.underlying t=some d):val P (underlying t)=some d:=by
  unfold underlying
  rw [val_bind,val_program]
  simp only [Option.bind_some,h]
  rfl
theorem val_typeInfo {t:TypeId} {i:TypeInfo} (h:P.info? t=some i):val P (typeInfo t)=some i:=by
  unfold typeInfo
  rw [val_bind,val_program]
  simp only [Option.bind_some,h]
  rfl
theorem val_sizeOf {t:TypeId} {i:TypeInfo} (h:P.info? t=some i):val P (sizeOf t)=some (P.cellsOf t):=by
  unfold sizeOf
  rw [val_bind,val_typeInfo h]
  simp [Program.cellsOf,h,val_pure]
def LK.okV:LK→Value→Bool
  | .int k,.int k' _=>decide (k=k')
  | .str,.string _=>true
  | .bool,.bool _=>true
  | _,_=>false
def okVs:List LK→List Value→Prop
  | [],[]=>True
  | k :: ks,x :: xs=>k.okV x=true∧okVs ks xs
  | _,_=>False
theorem okVs_len:∀{ls:List LK} {xs:List Value},okVs ls xs→xs.length=ls.length
  | [],[],_=>rfl
  | [],_ :: _,h=>h.elim
  | _ :: _,[],h=>h.elim
  | _ :: ls,_ :: xs,h=>by simp [okVs_len h.2]
theorem okVs_app:∀{l m:List LK} {xs:List Value},okVs (l ++ m) xs→okVs l (xs.take l.length)∧okVs m (xs.drop l.length)
  | [],m,xs,h=>⟨by simp [okVs],by simpa using h⟩
  | k :: l,m,[],h=>h.elim
  | k :: l,m,x :: xs,h=>by
    obtain ⟨h1,h2⟩:=okVs_app (l:=l) (m:=m) (xs:=xs) h.2
    exact ⟨⟨h.1,h1⟩,h2⟩
def vOf (P:Program) (t:TypeId) (xs:List Value):Value:=if AM.isAgg P t then .agg xs.toArray else xs.getD 0 undef
theorem val_isAgg {t:TypeId} {d:TypeDesc} (h:P.underlying t=some d):val P (Go.isAgg t)=some (AM.isAgg P t):=by
  unfold Go.isAgg AM.isAgg
  rw [val_bind,val_underlying h,h]
  cases d <;> rfl
theorem val_part {t : TypeId} {d : TypeDesc} {xs : List Value} {off n : Nat} (h : P.underlying t = some d) (hn : P.cellsOf t = n) (hl : off + n ≤ xs.length) (h1 : AM.isAgg P t = false → n = 1) :
    val P (part t xs.toArray off)=some (vOf P t ((xs.drop off).take n)):=by
  obtain ⟨i,hi⟩:=info_of_underlying h
  unfold part vOf
  rw [val_bind,val_isAgg h]
  simp only [Option.bind_some]
  cases ha:AM.isAgg P t with
  | true =>
    simp only [if_true]
    rw [val_bind,val_sizeOf hi,hn]
    simp only [Option.bind_some,val_pure,Option.some.injEq,Value.agg.injEq]
    apply Array.ext'
    simp [List.extract_eq_take_drop]
  | false =>
    have:=h1 ha
    subst this
    simp only [Bool.false_eq_true,if_false]
    have hlt:off < xs.length:=by omega
    simp only [List.getElem?_toArray,List.getElem?_eq_getElem hlt,val_pure]
    rw [List.drop_eq_getElem_cons hlt]
    simp [hlt]
theorem leaves_one {d:Nat} {t:TypeId} {ls:List LK} (h:leavesIn P d t=some ls) (ha:AM.isAgg P t=false):ls.length=1:=by
  cases d with
  | zero=>simp [leavesIn] at h
  | succ d =>
    simp only [leavesIn] at h
    unfold AM.isAgg at ha
    cases hu:P.underlying t with
    | none=>rw [hu] at h; cases h
    | some u =>
      rw [hu] at h ha
      cases u <;> first | (simp at ha; done) | (simp only [Option.some.injEq] at h; subst h; rfl) | cases h
theorem leaves_known:∀{d:Nat} {t:TypeId} {ls:List LK},leavesIn P d t=some ls→∃u,P.underlying t=some u
  | 0,_,_,h=>by simp [leavesIn] at h
  | d + 1,t,ls,h=>by
    simp only [leavesIn] at h
    cases hu:P.underlying t with
    | none=>rw [hu] at h; cases h
    | some u=>exact ⟨u,rfl⟩
theorem bytes_beq (a b:ByteArray):(a.toList == b.toList)=decide (a=b):=by
  have key:∀x:ByteArray,x.toList=x.data.toList:=fun x=>by
    rw [ByteArray.toList_eq]
  rw [key,key]
  by_cases h:a=b
  · subst h; simp
  · have h2:a.data.toList≠b.data.toList:=fun e=>h (by
      cases a; cases b; simp at e; simp [e])
    rw [decide_eq_false h]
    exact beq_eq_false_iff_ne.2 h2
end
end Go.AM
namespace Go.AM
open Go
section
variable {P:Program}
def leafStep (P:Program) (d:Nat) (acc:Option (List LK)) (f:Field):Option (List LK) :=
  match acc,leavesIn P d f.type with
  | some l,some m=>if f.name≠"_"∧f.offset=l.length∧P.cellsOf f.type=m.length then some (l ++ m) else none
  | _,_=>none
theorem leafStep_none (d:Nat):∀(fs:List Field),fs.foldl (leafStep P d) none=none
  | []=>rfl
  | f :: fs=>by rw [List.foldl_cons]; exact leafStep_none d fs
theorem leafStep_grow (d:Nat):∀(fs:List Field) (l L:List LK),fs.foldl (leafStep P d) (some l)=some L→∃m,L=l ++ m
  | [],l,L,h=>by simp at h; exact ⟨[],by simp [h]⟩
  | f :: fs,l,L,h=>by
    rw [List.foldl_cons] at h
    cases hs:leafStep P d (some l) f with
    | none=>rw [hs,leafStep_none] at h; cases h
    | some l' =>
      rw [hs] at h
      obtain ⟨m,rfl⟩:=leafStep_grow d fs l' L h
      unfold leafStep at hs
      split at hs
      · split at hs
        · rename_i hl _ _; simp only [Option.some.injEq] at hs hl; subst hl; subst hs; exact ⟨_,List.append_assoc _ _ _⟩
        · cases hs
      · cases hs
def EqOf (P:Program) (D:Nat) (t:TypeId) (ls:List LK):Prop :=
  ∀xs ys,okVs ls xs→okVs ls ys→∃b,val P (Op.equalIn D t (vOf P t xs) (vOf P t ys))=some b∧(b=true↔xs=ys)
theorem okVs_mid {l m m':List LK} {xs:List Value} (h:okVs (l ++ m ++ m') xs):okVs m ((xs.drop l.length).take m.length):=by
  rw [List.append_assoc] at h
  exact (okVs_app (okVs_app h).2).1
theorem take_mid {a b:Nat} {xs ys:List Value} (h1:xs.take a=ys.take a) (h2:(xs.drop a).take b=(ys.drop a).take b):xs.take (a + b)=ys.take (a + b):=by
  rw [List.take_add,List.take_add,h1,h2]
theorem mid_of_eq {a b:Nat} {xs ys:List Value} (h:xs=ys):(xs.drop a).take b=(ys.drop a).take b:=by rw [h]
theorem fields_eq (d D : Nat) (ih : ∀ t ls, leavesIn P d t = some ls → EqOf P D t ls) (xs ys : List Value) :
    ∀(fs:List Field) (l L:List LK),fs.foldl (leafStep P d) (some l)=some L→okVs L xs→okVs L ys→xs.take l.length=ys.take l.length →
      ∃r,val P (forIn fs ((none,()):Option Bool×Unit) (fun (f:Field) (_:Option Bool×Unit)=>(if f.name≠"_" then do
      let a ←part f.type xs.toArray f.offset
      let b ←part f.type ys.toArray f.offset
      let c ←Op.equalIn D f.type a b
      if (!c)=true then pure (ForInStep.done (some false,())) else pure (ForInStep.yield (none,()))
      else pure (ForInStep.yield (none,())):Sem (ForInStep (Option Bool×Unit)))))=some r∧((r=(none,())∧xs=ys)∨(r=(some false,())∧xs≠ys))
  | [],l,L,h,hx,hy,ht=>by
    simp at h; subst h
    refine ⟨(none,()),rfl,.inl ⟨rfl,?_⟩⟩
    rw [List.take_of_length_le (by rw [okVs_len hx]; exact Nat.le_refl _),List.take_of_length_le (by rw [okVs_len hy]; exact Nat.le_refl _)] at ht
    exact ht
  | f :: fs,l,L,h,hx,hy,ht=>by
    rw [List.foldl_cons] at h
    cases hs:leafStep P d (some l) f with
    | none=>rw [hs,leafStep_none] at h; cases h
    | some l' =>
      rw [hs] at h
      unfold leafStep at hs
      split at hs
      case h_2=>cases hs
      rename_i l0 m hl hm
      split at hs
      case isFalse=>cases hs
      rename_i hc
      simp only [Option.some.injEq] at hs hl
      subst hl; subst hs
      obtain ⟨hname,hoff,hcells⟩:=hc
      obtain ⟨m',rfl⟩:=leafStep_grow d fs _ _ h
      obtain ⟨u,hu⟩:=leaves_known hm
      have hlx:f.offset + m.length≤xs.length:=by rw [okVs_len hx,hoff]; simp
      have hly:f.offset + m.length≤ys.length:=by rw [okVs_len hy,hoff]; simp
      have hpx:=val_part (P:=P) (xs:=xs) (off:=f.offset) hu hcells hlx (leaves_one hm)
      have hpy:=val_part (P:=P) (xs:=ys) (off:=f.offset) hu hcells hly (leaves_one hm)
      obtain ⟨b,hb1,hb2⟩:=ih f.type m hm _ _ (okVs_mid hx) (okVs_mid hy)
      rw [←hoff] at hb1 hb2
      rw [List.forIn_cons]
      simp only [ne_eq,hname,not_false_eq_true,if_true]
      rw [val_bind,val_bind,hpx]
      simp only [Option.bind_some]
      rw [val_bind,hpy]
      simp only [Option.bind_some]
      rw [val_bind,hb1]
      simp only [Option.bind_some]
      cases b with
      | true =>
        simp only [Bool.not_true,Bool.false_eq_true,if_false,val_pure,Option.bind_some]
        refine fields_eq d D ih xs ys fs _ _ h hx hy ?_
        rw [List.length_append]
        refine take_mid ht ?_
        rw [←hoff]; exact hb2.1 rfl
      | false =>
        simp only [Bool.not_false,if_true,val_pure,Option.bind_some]
        refine ⟨_,rfl,.inr ⟨rfl,fun e => ?_⟩⟩
        have:=hb2.2 (mid_of_eq e)
        cases this
theorem elems_eq (D : Nat) (t : TypeId) (m : List LK) (u : TypeDesc) (hu : P.underlying t = some u) (hn : P.cellsOf t = m.length) (h1 : AM.isAgg P t = false → m.length = 1) (ih : EqOf P D t m) (xs ys : List Value) :
    ∀(n s:Nat),okVs (List.replicate (s + n) m).flatten xs→okVs (List.replicate (s + n) m).flatten ys→xs.take (s * m.length)=ys.take (s * m.length) →
      ∃r,val P (forIn (List.range' s n) ((none,()):Option Bool×Unit) (fun (i:Nat) (_:Option Bool×Unit)=>(do
      let a ←part t xs.toArray (i * m.length)
      let b ←part t ys.toArray (i * m.length)
      let c ←Op.equalIn D t a b
      if (!c)=true then pure (ForInStep.done (some false,())) else pure (ForInStep.yield (none,())):Sem (ForInStep (Option Bool×Unit)))))=some r∧((r=(none,())∧xs=ys)∨(r=(some false,())∧xs≠ys))
  | 0,s,hx,hy,ht=>by
    refine ⟨(none,()),rfl,.inl ⟨rfl,?_⟩⟩
    have lx:=okVs_len hx
    have ly:=okVs_len hy
    simp at lx ly
    rw [List.take_of_length_le (by omega),List.take_of_length_le (by omega)] at ht
    exact ht
  | n + 1,s,hx,hy,ht=>by
    have lx:=okVs_len hx
    have ly:=okVs_len hy
    simp at lx ly
    have e1:(s + (n + 1)) * m.length=s * m.length + m.length + n * m.length:=by rw [Nat.add_mul,Nat.add_mul]; omega
    have hsplit:(List.replicate (s + (n + 1)) m).flatten=(List.replicate s m).flatten ++ m ++ (List.replicate n m).flatten:=by
      rw [show s + (n + 1)=s + 1 + n by omega,←List.replicate_append_replicate,List.replicate_succ',List.flatten_append,List.flatten_append]
      simp
    have hlen:(List.replicate s m).flatten.length=s * m.length:=by simp
    have hx':=okVs_mid (hsplit▸hx)
    have hy':=okVs_mid (hsplit▸hy)
    rw [hlen] at hx' hy'
    have hpx:=val_part (P:=P) (xs:=xs) (off:=s * m.length) hu hn (by omega) h1
    have hpy:=val_part (P:=P) (xs:=ys) (off:=s * m.length) hu hn (by omega) h1
    obtain ⟨b,hb1,hb2⟩:=ih _ _ hx' hy'
    rw [List.range'_succ,List.forIn_cons,val_bind,val_bind,hpx]
    simp only [Option.bind_some]
    rw [val_bind,hpy]
    simp only [Option.bind_some]
    rw [val_bind,hb1]
    simp only [Option.bind_some]
    cases b with
    | true =>
      simp only [Bool.not_true,Bool.false_eq_true,if_false,val_pure,Option.bind_some]
      refine elems_eq D t m u hu hn h1 ih xs ys n (s + 1) (by rw [show s + 1 + n=s + (n + 1) by omega]; exact hx) (by rw [show s + 1 + n=s + (n + 1) by omega]; exact hy) ?_
      rw [Nat.add_mul,Nat.one_mul]
      exact take_mid ht (hb2.1 rfl)
    | false =>
      simp only [Bool.not_false,if_true,val_pure,Option.bind_some]
      refine ⟨_,rfl,.inr ⟨rfl,fun e => ?_⟩⟩
      have:=hb2.2 (mid_of_eq e)
      cases this
theorem equalIn_leaves:∀(d:Nat) (t:TypeId) (ls:List LK),leavesIn P d t=some ls→∀D,d≤D→EqOf P D t ls
  | 0,t,ls,h,_,_=>by simp [leavesIn] at h
  | d + 1,t,ls,h,0,hD=>by omega
  | d + 1,t,ls,h,D + 1,hD=>by
    have ih:=fun t ls h=>equalIn_leaves d t ls h D (by omega)
    intro xs ys hx hy
    simp only [leavesIn] at h
    unfold Op.equalIn
    rw [val_bind]
    cases hu:P.underlying t with
    | none=>rw [hu] at h; cases h
    | some u =>
      rw [hu] at h
      rw [val_underlying hu]
      simp only [Option.bind_some]
      have hag:AM.isAgg P t=(match P.underlying t with | some (.struct _) | some (.array _ _)=>true | _=>false):=rfl
      rw [hu] at hag
      unfold vOf
      cases u with
      | int k =>
        simp only [Option.some.injEq] at h; subst h
        dsimp only at hag
        rw [hag]
        match xs,ys,hx,hy with
        | [.int k1 a],[.int k2 b],hx,hy =>
          simp only [okVs,LK.okV,decide_eq_true_eq,and_true] at hx hy
          subst hx; subst hy
          exact ⟨a == b,by simp [val_pure],by simp⟩
      | string =>
        simp only [Option.some.injEq] at h; subst h
        dsimp only at hag
        rw [hag]
        match xs,ys,hx,hy with
        | [.string a],[.string b],hx,hy =>
          refine ⟨a == b,by simp [val_pure],?_⟩
          simp only [List.cons.injEq,Value.string.injEq,and_true]
          have he:(a == b)=(a.data == b.data):=rfl
          rw [he,beq_iff_eq]
          constructor
          · intro e; cases a; cases b; simpa using e
          · rintro rfl; rfl
      | bool =>
        simp only [Option.some.injEq] at h; subst h
        dsimp only at hag
        rw [hag]
        match xs,ys,hx,hy with
        | [.bool a],[.bool b],hx,hy=>exact ⟨a == b,by simp [val_pure],by simp⟩
      | struct fs =>
        dsimp only at h hag
        rw [hag]
        simp only [if_true]
        split at h
        · cases h
        rename_i hst
        have hst':P.stoodInHeld t=false:=by simpa using hst
        rw [val_bind,val_program]
        simp only [Option.bind_some,hst',Bool.false_eq_true,if_false]
        rw [val_bind,←Array.forIn_toList]
        obtain ⟨r,hr,hr2⟩:=fields_eq d D ih xs ys fs.toList [] ls h hx hy rfl
        rw [hr]
        rcases hr2 with ⟨rfl,e⟩ | ⟨rfl,e⟩
        · exact ⟨true,rfl,by simp [e]⟩
        · exact ⟨false,rfl,by simp [e]⟩
      | array n e =>
        dsimp only at h hag
        rw [hag]
        simp only [if_true]
        cases hm:leavesIn P d e with
        | none=>rw [hm] at h; cases h
        | some m =>
          rw [hm] at h
          dsimp only at h
          split at h
          case isFalse=>cases h
          rename_i hc
          simp only [Option.some.injEq] at h
          subst h
          obtain ⟨u,hue⟩:=leaves_known hm
          obtain ⟨i,hi⟩:=info_of_underlying hue
          rw [val_bind,val_sizeOf hi,hc.1]
          simp only [Option.bind_some]
          rw [val_bind,Std.Legacy.Range.forIn_eq_forIn_range']
          obtain ⟨r,hr,hr2⟩:=elems_eq D e m u hue hc.1 (leaves_one hm) (ih e m hm) xs ys n 0 (by simpa using hx) (by simpa using hy) (by simp)
          have hsz:(Std.Legacy.Range.size { stop:=n,step_pos:=Nat.zero_lt_one })=n:=by simp [Std.Legacy.Range.size]
          rw [hsz,hr]
          rcases hr2 with ⟨rfl,e⟩ | ⟨rfl,e⟩
          · exact ⟨true,rfl,by simp [e]⟩
          · exact ⟨false,rfl,by simp [e]⟩
      | _=>cases h
end
end Go.AM
namespace Go.AM
open Go
section
variable {P:Program} {cfg:Cfg} {f:FuncId} {fr:Fr} {σ σ':St}
theorem opL_of (x:Operand):opL fr (Opd.of x)=opnd fr x:=by
  cases x with
  | tmp t=>rfl
  | func g=>rfl
  | global g=>rfl
  | const v =>
    show opL fr (match Sc.ofV v with | some x=>Opd.c x | none=>Opd.no)=AV.ofV v
    unfold AV.ofV
    cases Sc.ofV v <;> rfl
theorem seL_of (x:Operand):seL fr (Opd.of x)=AM.seen fr x:=by unfold seL AM.seen; rw [opL_of]
theorem seL_fun:(seL fr ∘ Opd.of)=AM.seen fr:=by funext x; exact seL_of x
theorem tkL_of (tk:Bool) (x:Operand):tkL tk fr (Opd.of x)=taken tk fr x:=by
  cases x with
  | tmp t =>
    cases tk with
    | true=>rfl
    | false =>
      show sharedL t fr (fr.getD t .undef)=taken false fr (.tmp t)
      unfold taken
      simp only [Bool.false_eq_true,if_false]
      cases fr.getD t .undef with
      | list fl sz es=>cases fl <;> rfl
      | _=>rfl
  | func g=>rfl
  | global g=>rfl
  | const v =>
    have h:=opL_of (fr:=fr) (.const v)
    show tkL tk fr (match Sc.ofV v with | some x=>Opd.c x | none=>Opd.no)=(opnd fr (.const v),fr)
    rw [←h]
    show _=(opL fr (match Sc.ofV v with | some x=>Opd.c x | none=>Opd.no),fr)
    cases Sc.ofV v <;> rfl
theorem tkAllL_of:∀(xs:List Operand) {fr:Fr},tkAllL fr (xs.map Opd.of)=takenAll fr xs
  | [],_=>rfl
  | x :: xs,fr=>by
    simp only [List.map_cons,tkAllL,takenAll,tkL_of,tkAllL_of xs]
theorem settleL_of:∀(xs:List Operand) {fr:Fr},settleL fr (xs.map Opd.of)=settle fr xs
  | [],_=>rfl
  | x :: xs,fr=>by simp only [List.map_cons,settleL,settle,tkL_of,settleL_of xs]
theorem etOf_some {e:TypeId} {E:ET} (h:etOf P e=some E):elemOK P e=true∧P.cellsOf e=E.c∧AM.isAgg P e=E.ag∧AM.bytesOf P e=E.bytes∧zeroA P e=some E.z:=by
  unfold etOf at h
  split at h
  · rename_i ho
    cases hz:zeroA P e with
    | none=>rw [hz] at h; cases h
    | some z=>rw [hz] at h; simp at h; subst h; exact ⟨ho,rfl,rfl,rfl,rfl⟩
  · cases h
theorem sliceET_some {t:TypeId} {E:ET} (h:sliceET P t=some E):∃e,P.underlying t=some (.slice e)∧etOf P e=some E:=by
  unfold sliceET at h
  split at h
  · rename_i e hu; exact ⟨e,hu,h⟩
  · cases h
theorem packL_eq {e:TypeId} {E:ET} (h:AM.isAgg P e=E.ag) (cs:List AV):packL E cs=pack P e cs:=by
  unfold packL pack; rw [h]; cases E.ag <;> rfl
theorem groupL_eq {e:TypeId} {E:ET} (h:AM.isAgg P e=E.ag) (hc:P.cellsOf e=E.c):∀(n:Nat) (cs:List AV),groupL E n cs=group P e n cs
  | 0,_=>rfl
  | n + 1,cs=>by simp only [groupL,group,packL_eq h,groupL_eq h hc n,hc]
theorem elemsL_eq {e:TypeId} {E:ET} (h:AM.isAgg P e=E.ag) (hc:P.cellsOf e=E.c) (x:AV):elemsL E x σ=elems P e x σ:=by
  unfold elemsL elems
  rw [h,hc]
  split
  · rfl
  · rfl
  · rfl
  · split
    · congr 1; funext cs; exact groupL_eq h hc _ _
    · rfl
  · simp_all
theorem fits_some {ls:List LK}:∀{cs:List AV},fitsL ls cs=true→∃vs,scalars cs=some vs∧okVs ls vs:=by
  induction ls with
  | nil =>
    intro cs h
    cases cs with
    | nil=>exact ⟨[],rfl,trivial⟩
    | cons x xs=>simp [fitsL] at h
  | cons k ks ih =>
    intro cs h
    cases cs with
    | nil=>simp [fitsL] at h
    | cons x xs =>
      simp only [fitsL,Bool.and_eq_true] at h
      obtain ⟨vs,h1,h2⟩:=ih h.2
      have hk:=h.1
      have hs:∃s,x = .s s:=by
        unfold LK.fits at hk
        split at hk <;> first | exact ⟨_,rfl⟩ | cases hk
      obtain ⟨s,rfl⟩:=hs
      refine ⟨s.toV :: vs,by simp [scalars,h1],?_,h2⟩
      cases k <;> cases s <;> simp_all [LK.fits,LK.okV,Sc.toV]
theorem toV_inj_fits {k:LK} {x y:Sc} (hx:k.fits (.s x)=true) (hy:k.fits (.s y)=true) (h:x.toV=y.toV):x=y:=by
  cases k <;> cases x <;> simp [LK.fits] at hx <;> cases y <;> simp [LK.fits] at hy <;> simp [Sc.toV] at h <;> simp_all
theorem fits_sc {k:LK} {x:AV} (h:k.fits x=true):∃s,x = .s s:=by
  unfold LK.fits at h
  split at h <;> first | exact ⟨_,rfl⟩ | cases h
theorem fits_eq {ls:List LK}:∀{cs ds:List AV} {vs us:List Value},fitsL ls cs=true→fitsL ls ds=true→scalars cs=some vs→scalars ds=some us→(vs=us↔cs=ds):=by
  induction ls with
  | nil =>
    intro cs ds vs us hc hd h1 h2
    cases cs with
    | cons=>simp [fitsL] at hc
    | nil=>cases ds with
      | cons=>simp [fitsL] at hd
      | nil=>simp [scalars] at h1 h2; subst h1; subst h2; simp
  | cons k ks ih =>
    intro cs ds vs us hc hd h1 h2
    cases cs with
    | nil=>simp [fitsL] at hc
    | cons x xs=>cases ds with
      | nil=>simp [fitsL] at hd
      | cons y ys =>
        simp only [fitsL,Bool.and_eq_true] at hc hd
        obtain ⟨sx,rfl⟩:=fits_sc hc.1
        obtain ⟨sy,rfl⟩:=fits_sc hd.1
        simp only [scalars] at h1 h2
        cases e1:scalars xs with
        | none=>rw [e1] at h1; cases h1
        | some v1=>cases e2:scalars ys with
          | none=>rw [e2] at h2; cases h2
          | some v2 =>
            rw [e1] at h1; rw [e2] at h2
            simp at h1 h2
            subst h1; subst h2
            have:=ih hc.2 hd.2 e1 e2
            simp only [List.cons.injEq,AV.s.injEq]
            constructor
            · rintro ⟨a,b⟩; exact ⟨toV_inj_fits hc.1 hd.1 a,this.1 b⟩
            · rintro ⟨a,b⟩; exact ⟨by rw [a],this.2 b⟩
theorem beqgo_eq:∀{a b:List AV},AV.beq.go a b=true↔a=b
  | [],[]=>by simp [AV.beq.go]
  | [],_ :: _=>by simp [AV.beq.go]
  | _ :: _,[]=>by simp [AV.beq.go]
  | x :: xs,y :: ys=>by
    simp only [AV.beq.go,Bool.and_eq_true,List.cons.injEq,beqgo_eq (a:=xs) (b:=ys)]
    constructor
    · rintro ⟨h1,h2⟩; exact ⟨beq_eq h1,h2⟩
    · rintro ⟨rfl,h2⟩; exact ⟨beq_refl _,h2⟩
theorem beq_iff {a b:AV}:AV.beq a b=true↔a=b:=⟨beq_eq,fun h=>h▸beq_refl _⟩
theorem leaf_equal {t : TypeId} {ls : List LK} {cs ds : List AV} (hl : leavesIn P 10 t = some ls) (ha : AM.isAgg P t = true) (hc : fitsL ls cs = true) (hd : fitsL ls ds = true) :
    ∃x y,AV.toV (.agg cs)=some (.agg x)∧AV.toV (.agg ds)=some (.agg y)∧val P (Op.equal t (.agg x) (.agg y))=some (cellsEq cs ds):=by
  obtain ⟨vs,h1,h2⟩:=fits_some hc
  obtain ⟨us,h3,h4⟩:=fits_some hd
  obtain ⟨b,hb,hb2⟩:=equalIn_leaves 10 t ls hl Op.maxDepth (by decide) vs us h2 h4
  have hv:∀l,vOf P t l = .agg l.toArray:=fun l=>by unfold vOf; rw [ha]; rfl
  refine ⟨vs.toArray,us.toArray,by simp [AV.toV,h1],by simp [AV.toV,h3],?_⟩
  unfold Op.equal
  rw [←hv,←hv,hb]
  congr 1
  have:=hb2.trans (fits_eq hc hd h1 h3)
  rw [Bool.eq_iff_iff,this]
  exact beqgo_eq.symm
theorem val_guard_sc {op:BinOp} {t:TypeId} {xo yo:Operand} {x y:Value} (hx:∀cs,x≠.agg cs) (hx':x≠.nilIface):val P (eqGuard op t xo yo x y)=some ():=by
  cases op <;> first
    | rfl
    | (cases x <;> first | rfl | exact absurd rfl (hx _) | exact absurd rfl hx')
theorem intBin_val {op:BinOp} {t:TypeId} {k:IntKind} {a b:Int} {c:Sc} (h:scBin op (.int k a) (.int k b)=some c):val P (Go.binOp op t (.int k a) (.int k b))=some c.toV:=by
  unfold scBin at h
  cases op <;> simp only [if_true,intBin,intShift,reduceCtorEq] at h
  all_goals first
    | (simp only [Option.some.injEq] at h; subst h; simp only [Go.binOp,ne_eq,not_true_eq_false,if_false,Op.intCmp]; rfl)
    | (simp only [Option.some.injEq] at h; subst h; simp [Go.binOp,Op.intArith,Op.intCmp,Op.intBits,val,Sc.toV,pure]; done)
    | (split at h
       · cases h
       · rename_i hz; simp only [Option.some.injEq] at h; subst h; simp [Go.binOp,Op.intDiv,Op.shift,hz,val,Sc.toV,pure]; done)
    | cases h
theorem shift_val {op:BinOp} {t:TypeId} {k k':IntKind} {a b:Int} {c:Sc} (ho:op = .shl∨op = .shr) (h:intShift op k a b=some c):val P (Go.binOp op t (.int k a) (.int k' b))=some c.toV:=by
  unfold intShift at h
  rcases ho with rfl | rfl
  · split at h
    · cases h
    · rename_i hz; simp only [Option.some.injEq] at h; subst h; simp [Go.binOp,Op.shift,hz,val,Sc.toV,pure]
  · split at h
    · cases h
    · rename_i hz; simp only [Option.some.injEq] at h; subst h; simp [Go.binOp,Op.shift,hz,val,Sc.toV,pure]
theorem scBin_val {op:BinOp} {t:TypeId} {x y c:Sc} (h:scBin op x y=some c):val P (Go.binOp op t x.toV y.toV)=some c.toV∧(∀cs,x.toV≠.agg cs)∧x.toV≠.nilIface:=by
  refine ⟨?_,?_,?_⟩
  · cases x with
    | int k a =>
      cases y with
      | int k' b =>
        by_cases hs:op = .shl∨op = .shr
        · have:intShift op k a b=some c:=by rcases hs with rfl | rfl <;> exact h
          exact shift_val hs this
        · have h':=h
          unfold scBin at h'
          split at h' <;> first | (exact absurd (Or.inl rfl) hs) | (exact absurd (Or.inr rfl) hs) | skip
          · rename_i heq1 heq2
            simp only [Sc.int.injEq] at heq1 heq2
            obtain ⟨rfl,rfl⟩:=heq1
            obtain ⟨rfl,rfl⟩:=heq2
            split at h'
            · rename_i hk; subst hk; exact intBin_val h
            · cases h'
          all_goals simp_all
      | _=>unfold scBin at h; split at h <;> simp_all
    | str a =>
      cases y with
      | str b =>
        unfold scBin at h
        have hbeq:∀a b:List UInt8,(ByteArray.toList ⟨a.toArray⟩ == ByteArray.toList ⟨b.toArray⟩)=decide (a=b):=fun a b=>by
          rw [bytes_beq]
          congr 1
          simp
        split at h <;> simp_all
        · subst h; simp [Go.binOp,Op.stringOp,val,Sc.toV,pure,hbeq]
        · subst h; simp [Go.binOp,Op.stringOp,val,Sc.toV,pure,hbeq]
      | _=>unfold scBin at h; split at h <;> simp_all
    | _=>unfold scBin at h; split at h <;> simp_all
  · intro cs; cases x <;> simp [Sc.toV]
  · cases x <;> simp [Sc.toV]
theorem ofPlain_toV {c:Sc} (h:(∃b,c = .bool b)∨(∃k n,c = .int k n)):AV.ofPlain c.toV=some (.s c):=by
  rcases h with ⟨b,rfl⟩ | ⟨k,n,rfl⟩ <;> rfl
theorem scBin_kind {op:BinOp} {x y c:Sc} (h:scBin op x y=some c):(∃b,c = .bool b)∨(∃k n,c = .int k n):=by
  unfold scBin at h
  split at h
  · unfold intShift at h; split at h
    · cases h
    · simp at h; exact .inr ⟨_,_,h.symm⟩
  · unfold intShift at h; split at h
    · cases h
    · simp at h; exact .inr ⟨_,_,h.symm⟩
  · split at h
    · unfold intBin at h
      split at h <;> first
        | (simp only [Option.some.injEq] at h; subst h; first | exact .inl ⟨_,rfl⟩ | exact .inr ⟨_,_,rfl⟩)
        | (split at h <;> first | (simp only [Option.some.injEq] at h; subst h; exact .inr ⟨_,_,rfl⟩) | cases h)
        | cases h
    · cases h
  · simp at h; exact .inl ⟨_,h.symm⟩
  · simp at h; exact .inl ⟨_,h.symm⟩
  · cases h
end
end Go.AM
namespace Go.AM
open Go
section
variable {P:Program} {cfg:Cfg} {f:FuncId} {fr:Fr} {σ σ':St}
theorem checks_eq (d D : Nat) (em : Bool) (ih : ∀ t ls, leavesIn P d t = some ls → ∀ xs, okVs ls xs → val P (Instr.checkKey em D t (vOf P t xs)) = some ()) (xs : List Value) :
    ∀(fs:List Field) (l L:List LK),fs.foldl (leafStep P d) (some l)=some L→okVs L xs →
      val P (forIn fs () (fun (f:Field) (_:Unit)=>(if f.name≠"_" then do
        let a ←part f.type xs.toArray f.offset
        Instr.checkKey em D f.type a
        pure (ForInStep.yield ())
        else pure (ForInStep.yield ()):Sem (ForInStep Unit))))=some ()
  | [],l,L,h,hx=>rfl
  | f :: fs,l,L,h,hx=>by
    rw [List.foldl_cons] at h
    cases hs:leafStep P d (some l) f with
    | none=>rw [hs,leafStep_none] at h; cases h
    | some l' =>
      rw [hs] at h
      unfold leafStep at hs
      split at hs
      case h_2=>cases hs
      rename_i l0 m hl hm
      split at hs
      case isFalse=>cases hs
      rename_i hc
      simp only [Option.some.injEq] at hs hl
      subst hl; subst hs
      obtain ⟨hname,hoff,hcells⟩:=hc
      obtain ⟨m',rfl⟩:=leafStep_grow d fs _ _ h
      obtain ⟨u,hu⟩:=leaves_known hm
      have hlx:f.offset + m.length≤xs.length:=by rw [okVs_len hx,hoff]; simp
      have hpx:=val_part (P:=P) (xs:=xs) (off:=f.offset) hu hcells hlx (leaves_one hm)
      have hb1:=ih f.type m hm _ (okVs_mid hx)
      rw [←hoff] at hb1
      rw [List.forIn_cons]
      simp only [ne_eq,hname,not_false_eq_true,if_true]
      rw [val_bind,val_bind,hpx]
      simp only [Option.bind_some]
      rw [val_bind,hb1]
      simp only [Option.bind_some,val_pure]
      exact checks_eq d D em ih xs fs _ _ h hx
theorem checkElems_eq (D : Nat) (em : Bool) (t : TypeId) (m : List LK) (u : TypeDesc) (hu : P.underlying t = some u) (hn : P.cellsOf t = m.length) (h1 : AM.isAgg P t = false → m.length = 1) (ih : ∀ xs, okVs m xs → val P (Instr.checkKey em D t (vOf P t xs)) = some ()) (xs : List Value) :
    ∀(n s:Nat),okVs (List.replicate (s + n) m).flatten xs →
      val P (forIn (List.range' s n) () (fun (i:Nat) (_:Unit)=>(do
        let k ←sizeOf t
        let a ←part t xs.toArray (i * k)
        Instr.checkKey em D t a
        pure (ForInStep.yield ()):Sem (ForInStep Unit))))=some ()
  | 0,s,hx=>rfl
  | n + 1,s,hx=>by
    have lx:=okVs_len hx
    simp at lx
    have e1:(s + (n + 1)) * m.length=s * m.length + m.length + n * m.length:=by rw [Nat.add_mul,Nat.add_mul]; omega
    have hsplit:(List.replicate (s + (n + 1)) m).flatten=(List.replicate s m).flatten ++ m ++ (List.replicate n m).flatten:=by
      rw [show s + (n + 1)=s + 1 + n by omega,←List.replicate_append_replicate,List.replicate_succ',List.flatten_append,List.flatten_append]
      simp
    have hlen:(List.replicate s m).flatten.length=s * m.length:=by simp
    have hx':=okVs_mid (hsplit▸hx)
    rw [hlen] at hx'
    obtain ⟨i,hi⟩:=info_of_underlying hu
    have hpx:=val_part (P:=P) (xs:=xs) (off:=s * m.length) hu hn (by omega) h1
    rw [List.range'_succ,List.forIn_cons,val_bind,val_bind,val_sizeOf hi,hn]
    simp only [Option.bind_some]
    rw [val_bind,hpx]
    simp only [Option.bind_some]
    rw [val_bind,ih _ hx']
    simp only [Option.bind_some,val_pure]
    refine checkElems_eq D em t m u hu hn h1 ih xs n (s + 1) (by rw [show s + 1 + n=s + (n + 1) by omega]; exact hx)
theorem check_leaves (em:Bool):∀(d:Nat) (t:TypeId) (ls:List LK),leavesIn P d t=some ls→∀D,d≤D→∀xs,okVs ls xs→val P (Instr.checkKey em D t (vOf P t xs))=some ()
  | 0,t,ls,h,_,_=>by simp [leavesIn] at h
  | d + 1,t,ls,h,0,hD=>by omega
  | d + 1,t,ls,h,D + 1,hD=>by
    have ih:=fun t ls h=>check_leaves em d t ls h D (by omega)
    intro xs hx
    simp only [leavesIn] at h
    unfold Instr.checkKey
    rw [val_bind]
    cases hu:P.underlying t with
    | none=>rw [hu] at h; cases h
    | some u =>
      rw [hu] at h
      rw [val_underlying hu]
      simp only [Option.bind_some]
      have hag:AM.isAgg P t=(match P.underlying t with | some (.struct _) | some (.array _ _)=>true | _=>false):=rfl
      rw [hu] at hag
      unfold vOf
      cases u with
      | int k=>rfl
      | string=>rfl
      | bool=>rfl
      | struct fs =>
        dsimp only at h hag
        rw [hag]
        simp only [if_true]
        split at h
        · cases h
        rw [←Array.forIn_toList]
        rw [val_bind]
        have hk:=checks_eq d D em ih xs fs.toList [] ls h hx
        rw [show val P (forIn fs.toList PUnit.unit _)=some () from hk]
        rfl
      | array n e =>
        dsimp only at h hag
        rw [hag]
        simp only [if_true]
        cases hm:leavesIn P d e with
        | none=>rw [hm] at h; cases h
        | some m =>
          rw [hm] at h
          dsimp only at h
          split at h
          case isFalse=>cases h
          rename_i hc
          simp only [Option.some.injEq] at h
          subst h
          obtain ⟨u,hue⟩:=leaves_known hm
          rw [Std.Legacy.Range.forIn_eq_forIn_range']
          have hsz:(Std.Legacy.Range.size { stop:=n,step_pos:=Nat.zero_lt_one })=n:=by simp [Std.Legacy.Range.size]
          rw [hsz]
          rw [val_bind]
          have hk:=checkElems_eq D em e m u hue hc.1 (leaves_one hm) (ih e m hm) xs n 0 (by simpa using hx)
          rw [show val P (forIn (List.range' _ n _) PUnit.unit _)=some () from hk]
          rfl
      | _=>cases h
theorem kk_toV {kT : TypeId} {kk : KK} {k : AV} (h : kkOf P kT = some kk) (hf : kk.fits k = true) :
    ∃ls vs,k.toV=some (vOf P kT vs)∧leavesIn P 10 kT=some ls∧okVs ls vs∧scalars k.cells=some vs∧fitsL ls k.cells=true:=by
  have one : ∀ {lk : LK} {u : TypeDesc}, P.underlying kT = some u → (match u with | .struct _ | .array _ _ => true | _ => false) = false → leavesIn P 10 kT = some [lk] → lk.fits k = true →
      ∃ls vs,k.toV=some (vOf P kT vs)∧leavesIn P 10 kT=some ls∧okVs ls vs∧scalars k.cells=some vs∧fitsL ls k.cells=true:=by
    intro lk u hu hag hl hk
    obtain ⟨s,rfl⟩:=fits_sc hk
    have ha:AM.isAgg P kT=false:=by unfold AM.isAgg; rw [hu]; cases u <;> simp_all
    refine ⟨[lk],[s.toV],by simp [AV.toV,vOf,ha],hl,⟨?_,trivial⟩,rfl,by simp [AV.cells,fitsL,hk]⟩
    cases lk <;> cases s <;> simp_all [LK.fits,LK.okV,Sc.toV]
  have many : ∀ {u : TypeDesc} {ls : List LK}, P.underlying kT = some u → (match u with | .struct _ | .array _ _ => true | _ => false) = true → leavesIn P 10 kT = some ls → kk = .leaf ls →
      ∃ls vs,k.toV=some (vOf P kT vs)∧leavesIn P 10 kT=some ls∧okVs ls vs∧scalars k.cells=some vs∧fitsL ls k.cells=true:=by
    intro u ls hu hag hl hkk
    subst hkk
    cases k with
    | agg cs =>
      have hf':fitsL ls cs=true:=hf
      obtain ⟨vs,h1,h2⟩:=fits_some hf'
      have ha:AM.isAgg P kT=true:=by unfold AM.isAgg; rw [hu]; cases u <;> simp_all
      exact ⟨ls,vs,by simp [AV.toV,vOf,ha,h1],hl,h2,h1,hf'⟩
    | _=>simp [KK.fits] at hf
  unfold kkOf at h
  cases hu:P.underlying kT with
  | none=>rw [hu] at h; cases h
  | some u =>
    rw [hu] at h
    cases u with
    | int k0=>simp at h; subst h; exact one hu rfl (by simp [leavesIn,hu]) hf
    | string=>simp at h; subst h; exact one hu rfl (by simp [leavesIn,hu]) hf
    | bool=>simp at h; subst h; exact one hu rfl (by simp [leavesIn,hu]) hf
    | struct fs =>
      dsimp only at h
      obtain ⟨ls,h1,h2⟩:=map_some h
      exact many hu rfl h1 h2.symm
    | array n e =>
      dsimp only at h
      obtain ⟨ls,h1,h2⟩:=map_some h
      exact many hu rfl h1 h2.symm
    | _=>cases h
theorem kk_may {kT:TypeId} {kk:KK} {k:AV} (h:kkOf P kT=some kk) (hf:kk.fits k=true):keyMay P kT k=true:=by
  obtain ⟨ls,vs,h1,h2,h3,h4,h5⟩:=kk_toV h hf
  unfold keyMay
  rw [h1]
  dsimp only
  rw [check_leaves false 10 kT ls h2 10000 (by decide) vs h3,check_leaves true 10 kT ls h2 10000 (by decide) vs h3]
  rfl
theorem cells_inj {ls:List LK} {kk:KK} {a b:AV} (ha:kk.fits a=true) (hb:kk.fits b=true):a.cells=b.cells↔a=b:=by
  refine ⟨fun h => ?_,fun h=>by rw [h]⟩
  cases kk with
  | one k =>
    obtain ⟨x,rfl⟩:=fits_sc (show k.fits a=true from ha)
    obtain ⟨y,rfl⟩:=fits_sc (show k.fits b=true from hb)
    simpa [AV.cells] using h
  | leaf ls =>
    cases a with
    | agg x=>cases b with
      | agg y=>simpa [AV.cells] using h
      | _=>simp [KK.fits] at hb
    | _=>simp [KK.fits] at ha
theorem keyEqL_ok {kT:TypeId} {kk:KK} {a b:AV} {r:Bool} (h:kkOf P kT=some kk) (he:keyEqL kk a b=some r):keyEq P kT a b=some r:=by
  unfold keyEqL at he
  split at he
  case isFalse=>cases he
  rename_i hf
  simp only [Option.some.injEq] at he
  subst he
  obtain ⟨ls,vs,h1,h2,h3,h4,h5⟩:=kk_toV h hf.1
  obtain ⟨ls',us,k1,k2,k3,k4,k5⟩:=kk_toV h hf.2
  have:ls'=ls:=Option.some.inj (k2.symm.trans h2)
  subst this
  obtain ⟨u,hu⟩:=leaves_known h2
  have hiff:(vs=us)↔a=b:=(fits_eq h5 k5 h4 k4).trans (cells_inj (ls:=ls') hf.1 hf.2)
  have hbeq:AV.beq a b=true↔vs=us:=beq_iff.trans hiff.symm
  unfold keyEq
  rw [h1,k1,hu]
  dsimp only
  split
  · rename_i hn
    have hag:AM.isAgg P kT=false:=by unfold AM.isAgg; rw [hu]; cases u <;> simp_all [nowKind]
    have hlen:=leaves_one h2 hag
    unfold vOf
    rw [hag]
    simp only [Bool.false_eq_true,if_false]
    match ls',vs,us,h3,k3,hlen with
    | [lk],[x],[y],h3,k3,_ =>
      have hx:=h3.1
      have hy:=k3.1
      unfold leavesIn at h2
      rw [hu] at h2
      cases u <;> simp [nowKind] at hn <;> simp at h2 <;> subst h2
      · cases x <;> simp [LK.okV] at hx
        cases y <;> simp [LK.okV] at hy
        rename_i b1 b2
        have hval:(b1=b2)↔AV.beq a b=true:=by rw [hbeq]; simp
        simp only [List.getD_cons_zero,Instr.sameNow,Option.some.injEq]
        rw [Bool.eq_iff_iff,←hval]; simp
      · cases x <;> simp [LK.okV] at hx
        cases y <;> simp [LK.okV] at hy
        subst hx; subst hy
        rename_i b1 b2
        have hval:(b1=b2)↔AV.beq a b=true:=by rw [hbeq]; simp
        simp only [List.getD_cons_zero,Instr.sameNow,if_true,Option.some.injEq]
        rw [Bool.eq_iff_iff,←hval]; simp
      · cases x <;> simp [LK.okV] at hx
        cases y <;> simp [LK.okV] at hy
        rename_i b1 b2
        have hval:(b1=b2)↔AV.beq a b=true:=by rw [hbeq]; simp
        simp only [List.getD_cons_zero,Instr.sameNow,Option.some.injEq]
        have he:(b1 == b2)=(b1.data == b2.data):=rfl
        rw [he,Bool.eq_iff_iff,←hval,beq_iff_eq]
        constructor
        · intro e; cases b1; cases b2; simpa using e
        · rintro rfl; rfl
  · obtain ⟨r,hr,hr2⟩:=equalIn_leaves 10 kT ls' h2 Op.maxDepth (by decide) vs us h3 k3
    unfold Op.equal
    rw [hr]
    congr 1
    rw [Bool.eq_iff_iff,hr2,hbeq]
theorem findL_ok {kT:TypeId} {kk:KK} {k:AV} (h:kkOf P kT=some kk):∀{es:List Entry} {i:Nat} {r:Option (Nat×Entry)},findL kk k es i=some r→findA P kT k es i=some r
  | [],i,r,hf=>hf
  | e :: es,i,r,hf=>by
    simp only [findL] at hf
    simp only [findA]
    cases hk:keyEqL kk k e.key with
    | none=>rw [hk] at hf; cases hf
    | some b =>
      rw [hk] at hf
      rw [keyEqL_ok h hk]
      cases b with
      | true=>exact hf
      | false=>exact findL_ok h hf
theorem findL_key {kk:KK} {k:AV}:∀{es:List Entry} {i j:Nat} {e:Entry},findL kk k es i=some (some (j,e))→k=e.key∧kk.fits e.key=true
  | [],i,j,e,hf=>by simp [findL] at hf
  | x :: es,i,j,e,hf=>by
    simp only [findL] at hf
    cases hk:keyEqL kk k x.key with
    | none=>rw [hk] at hf; cases hf
    | some b =>
      rw [hk] at hf
      cases b with
      | true =>
        simp only [Option.some.injEq,Prod.mk.injEq] at hf
        obtain ⟨_,rfl⟩:=hf
        unfold keyEqL at hk
        split at hk
        · rename_i h; simp only [Option.some.injEq] at hk; exact ⟨beq_eq hk,h.2⟩
        · cases hk
      | false=>exact findL_key hf
theorem mapKinds_some {t:TypeId} {q:KK×AV} (h:mapKinds P t=some q):∃k e,P.underlying t=some (.map k e)∧kkOf P k=some q.1∧zeroA P e=some q.2:=by
  unfold mapKinds at h
  split at h
  · rename_i k e hu
    split at h
    · rename_i kk z h1 h2; simp at h; subst h; exact ⟨k,e,hu,h1,h2⟩
    · cases h
  · cases h
theorem lookupL_ok {t:TypeId} {q:KK×AV} {m k v:AV} {ok:Bool} (h:mapKinds P t=some q) (hl:lookupL q.1 q.2 ok m k σ=some v):lookup P t m k ok σ=some v:=by
  obtain ⟨kT,eT,hu,hk,hz⟩:=mapKinds_some h
  unfold lookupL at hl
  unfold lookup
  rw [hu]
  dsimp only
  split at hl
  case isFalse=>cases hl
  rename_i hf
  rw [kk_may hk hf]
  simp only [Bool.not_true,Bool.false_eq_true,if_false]
  split at hl
  · cases hl
  · rename_i es c hm
    rw [hm]
    dsimp only
    split at hl
    · rename_i j e hfd
      rw [findL_ok hk hfd]; exact hl
    · rename_i hfd
      rw [findL_ok hk hfd]
      dsimp only
      rw [hz]; exact hl
    · cases hl
theorem sameBits_self {kT:TypeId} {kk:KK} {k:AV} (h:kkOf P kT=some kk) (hf:kk.fits k=true):∃v,k.toV=some v∧Instr.sameBits 10000 v v=true:=by
  obtain ⟨ls,vs,h1,h2,h3,h4,h5⟩:=kk_toV h hf
  refine ⟨_,h1,?_⟩
  have sc:∀(n:Nat) (lk:LK) (x:Value),lk.okV x=true→Instr.sameBits n x x=true:=by
    intro n lk x hx
    have hs:∀s:ByteArray,(s == s)=true:=fun s=>by
      show (s.data == s.data)=true
      simp
    cases lk <;> cases x <;> simp [LK.okV] at hx <;> cases n <;> simp [Instr.sameBits,hs]
  have all:∀(n:Nat) (ls:List LK) (vs:List Value),okVs ls vs→(vs.zip vs).all (fun (x,y)=>Instr.sameBits n x y)=true:=by
    intro n ls
    induction ls with
    | nil=>intro vs hv; cases vs with | nil=>rfl | cons=>exact hv.elim
    | cons k ks ih =>
      intro vs hv
      cases vs with
      | nil=>exact hv.elim
      | cons x xs=>simp only [List.zip_cons_cons,List.all_cons,sc n k x hv.1,ih xs hv.2]; rfl
  unfold vOf
  split
  · show Instr.sameBits (9999 + 1) (.agg vs.toArray) (.agg vs.toArray)=true
    simp only [Instr.sameBits,beq_self_eq_true,Bool.true_and]
    exact all 9999 ls vs h3
  · rename_i ha
    have hlen:=leaves_one h2 (by simpa using ha)
    match ls,vs,h3,hlen with
    | [lk],[x],h3,_=>exact sc _ lk x h3.1
theorem updateL_ok {t:TypeId} {q:KK×AV} {m k v:AV} (h:mapKinds P t=some q) (hl:updateL q.1 m k v σ=some σ'):update P t m k v σ=some σ':=by
  obtain ⟨kT,eT,hu,hk,hz⟩:=mapKinds_some h
  unfold updateL at hl
  unfold update
  rw [hu]
  dsimp only
  split at hl
  case isFalse=>cases hl
  rename_i hf
  rw [kk_may hk hf.1,hf.2]
  simp only [Bool.not_true,Bool.or_self,Bool.false_eq_true,if_false]
  split at hl
  case h_2=>cases hl
  rename_i hd
  dsimp only
  split at hl
  · cases hl
  · rename_i es c hm
    rw [hm]
    dsimp only
    split at hl
    · rename_i j e hfd
      rw [findL_ok hk hfd]
      dsimp only
      obtain ⟨e1,e2⟩:=findL_key hfd
      obtain ⟨v0,h3,h4⟩:=sameBits_self hk e2
      rw [h3,e1,h3]
      dsimp only
      rw [h4,if_pos rfl,←e1]; exact hl
    · rename_i hfd
      rw [findL_ok hk hfd]; exact hl
    · cases hl
theorem deleteL_ok {t:TypeId} {q:KK×AV} {m k:AV} (h:mapKinds P t=some q) (hl:deleteL q.1 m k σ=some σ'):deleteA P t m k σ=some σ':=by
  obtain ⟨kT,eT,hu,hk,hz⟩:=mapKinds_some h
  unfold deleteL at hl
  unfold deleteA
  rw [hu]
  dsimp only
  split at hl
  case isFalse=>cases hl
  rename_i hf
  rw [kk_may hk hf]
  simp only [Bool.not_true,Bool.false_eq_true,if_false]
  split at hl
  · exact hl
  · rename_i hd
    dsimp only
    split at hl
    · cases hl
    · rename_i es c hm
      rw [hm]
      dsimp only
      split at hl
      · rename_i j e hfd; rw [findL_ok hk hfd]; exact hl
      · rename_i hfd; rw [findL_ok hk hfd]; exact hl
      · cases hl
  · cases hl
end
end Go.AM
