import Derived.Orders
import Derived.Deep.AppendSrc
import Derived.Laws.NewBlocks
import Derived.Laws.IdiomCopy
set_option linter.unusedSimpArgs false
set_option linter.unusedVariables false
namespace Go.AM
open Go
inductive Sc where
  | bool (b:Bool)
  | int (k:IntKind) (n:Int)
  | str (s:List UInt8)
  | nilS
  | nilP
  | nilM
  | nilF
  deriving DecidableEq
def Sc.toV:Sc→Value
  | .bool b => .bool b
  | .int k n => .int k n
  | .str s => .string ⟨s.toArray⟩
  | .nilS => .slice none 0 0
  | .nilP => .pointer none
  | .nilM => .map none
  | .nilF => .nilFunc
def Sc.ofV:Value→Option Sc
  | .bool b=>some (.bool b)
  | .int k n=>some (.int k n)
  | .string s=>some (.str s.data.toList)
  | .slice none 0 0=>some .nilS
  | .pointer none=>some .nilP
  | .map none=>some .nilM
  | .nilFunc=>some .nilF
  | _=>none
inductive Fl where
  | sh | own | uniq | full
  deriving DecidableEq
inductive Ref where
  | stk (n:Nat)
  | heap (n:Nat)
  deriving DecidableEq
inductive AV where
  | s (x:Sc)
  | undef
  | agg (cs:List AV)
  | tup (vs:List AV)
  | list (fl:Fl) (sz:Nat) (es:List AV)
  | rop (cs:List AV)
  | ptr (r:Ref) (off:Nat)
  | row (r:Ref) (off len cap:Nat)
  | map (h:Nat)
  | fn (fn:Fn) (first captured:List AV)
  | yield (h:Nat)
  | lenv (n:Nat)
  deriving Inhabited
abbrev AV.bool (b:Bool):AV := .s (.bool b)
abbrev AV.int (k:IntKind) (n:Int):AV := .s (.int k n)
abbrev AV.i (n:Int):AV := .s (.int .i64 n)
abbrev AV.str (l:List UInt8):AV := .s (.str l)
abbrev AV.nilS:AV := .s .nilS
abbrev AV.nilP:AV := .s .nilP
abbrev AV.nilM:AV := .s .nilM
structure Entry where
  key:AV
  val:AV
  born:Nat
  deriving Inhabited
inductive Ex where
  | normal
  | exit (id:Nat)
  | ret
  deriving DecidableEq
def Ex.toCode:Ex→Code
  | .normal => .skip
  | .exit id => .exit id
  | .ret => .ret
structure LoopA where
  fid:FuncId
  fr:List AV
  params:List Tmp
  assign:Code
  body:Code
  ready:Bool
  pending:Option Ex
  deriving Inhabited
structure IterA where
  map:Option Nat
  since:Nat
  seen:List Nat
  stepped:Nat
  deriving Inhabited
inductive HObj where
  | cells (cs:List AV)
  | map (es:List Entry) (clock:Nat)
  | loop (l:LoopA)
  | iter (i:IterA)
  | dead
  deriving Inhabited
structure St where
  stk:List (List AV)
  heap:List HObj
  deriving Inhabited
abbrev Fr:=List AV
def AV.cells:AV→List AV
  | .agg cs=>cs
  | v=>[v]
def AV.sh:AV→AV
  | .list .own sz es => .list .sh sz es
  | .list .uniq sz es => .list .sh sz es
  | v=>v
def AV.look:AV→AV
  | .list .own sz es => .list .sh sz es
  | .list .uniq _ es => .lenv es.length
  | v=>v
def AV.left:AV→AV
  | .list .own sz es => .list .sh sz es
  | .list .uniq _ _ => .undef
  | v=>v
def AV.calm:AV→AV
  | .list .uniq sz es => .list .own sz es
  | v=>v
def AV.ofV (v:Value):AV :=
  match Sc.ofV v with
  | some x => .s x
  | none => .undef
def AV.isCell:AV→Bool
  | .agg _ | .undef | .tup _ | .list .uniq _ _=>false
  | _=>true
def AV.kept:AV→Bool
  | .undef | .list .uniq _ _=>true
  | _=>false
def AV.fit:AV→Bool
  | .undef | .tup _=>false
  | _=>true
def AV.under (n:Nat):AV→Bool
  | .agg cs=>go cs
  | .tup vs=>go vs
  | .ptr (.stk m) _=>decide (m < n)
  | .row (.stk m) _ _ _=>decide (m < n)
  | .fn _ a c=>go a && go c
  | _=>true
  where go:List AV→Bool
  | []=>true
  | x :: xs=>AV.under n x && go xs
abbrev underL (n:Nat) (l:List AV):Bool:=AV.under.go n l
def AV.beq:AV→AV→Bool
  | .s x,.s y=>decide (x=y)
  | .undef,.undef=>true
  | .agg a,.agg b=>go a b
  | .tup a,.tup b=>go a b
  | .list f n a,.list g m b=>decide (f=g) && decide (n=m) && go a b
  | .rop a,.rop b=>go a b
  | .ptr r o,.ptr r' o'=>decide (r=r') && decide (o=o')
  | .row r o l c,.row r' o' l' c'=>decide (r=r') && decide (o=o') && decide (l=l') && decide (c=c')
  | .map a,.map b=>decide (a=b)
  | .yield a,.yield b=>decide (a=b)
  | .lenv a,.lenv b=>decide (a=b)
  | .fn f a c,.fn g b d=>decide (f=g) && go a b && go c d
  | _,_=>false
  where go:List AV→List AV→Bool
  | [],[]=>true
  | x :: xs,y :: ys=>AV.beq x y && go xs ys
  | _,_=>false
def scalars:List AV→Option (List Value)
  | []=>some []
  | .s x :: r=>(scalars r).map (x.toV :: ·)
  | _ :: _=>none
def AV.toV:AV→Option Value
  | .s x=>some x.toV
  | .agg cs=>(scalars cs).map fun l => .agg l.toArray
  | _=>none
def Sc.ofVs:List Value→Option (List AV)
  | []=>some []
  | v :: r=>match Sc.ofV v,Sc.ofVs r with
    | some x,some l=>some (.s x :: l)
    | _,_=>none
def AV.ofPlain:Value→Option AV
  | .agg cs=>(Sc.ofVs cs.toList).map .agg
  | v=>(Sc.ofV v).map .s
inductive Tgt where
  | fn (f:FuncId)
  | yield (h:Nat)
structure Cfg where
  heap:FuncId→Nat→Bool
  take:FuncId→Nat→Bool
  thaw:FuncId→Nat→Bool
  freeze:FuncId→Nat→Bool
  mask:FuncId→Nat→List Bool
  plan:FuncId→Nat→List Nat
  prim:FuncId→Option (List AV→St→Option (AV×St))
  keep:FuncId→Bool:=fun _=>false
def val {α:Type} (P:Program):Sem α→Option α
  | .pure a=>some a
  | .program k=>val P (k P)
  | _=>none
def opnd (fr:Fr):Operand→AV
  | .tmp t=>fr.getD t .undef
  | .const v => .ofV v
  | .func f => .fn (.func f) [] []
  | .global _ => .undef
def seen (fr:Fr) (x:Operand):AV:=(opnd fr x).look
def taken (tk:Bool) (fr:Fr) (x:Operand):AV×Fr :=
  match x with
  | .tmp t=>if tk then (fr.getD t .undef,fr.set t (fr.getD t .undef).left) else
    match fr.getD t .undef with
    | .list .uniq sz es=>(.list .sh sz es,fr.set t (.list .own sz es))
    | v=>(v.sh,fr)
  | x=>(opnd fr x,fr)
def takenAll (fr:Fr):List Operand→List AV×Fr
  | []=>([],fr)
  | x :: xs =>
    let (v,fr):=taken true fr x
    let (vs,fr):=takenAll fr xs
    (v :: vs,fr)
def isAgg (P:Program) (t:TypeId):Bool :=
  match P.underlying t with
  | some (.struct _) | some (.array _ _)=>true
  | _=>false
def aggOf (P:Program) (t:TypeId):Option Bool :=
  match P.underlying t with
  | some (.struct _) | some (.array _ _)=>some true
  | some _=>some false
  | none=>none
def zeroA (P:Program) (t:TypeId):Option AV:=((P.info? t).bind (·.zero)).bind AV.ofPlain
def pack (P:Program) (t:TypeId) (cs:List AV):AV :=
  if isAgg P t then .agg cs else cs.getD 0 .undef
def newBox (heap:Bool) (cs:List AV) (σ:St):Option (Ref×St) :=
  if heap then
    if underL 0 cs then some (.heap σ.heap.length,{ σ with heap:=σ.heap ++ [.cells cs] }) else none
  else
    if underL σ.stk.length cs then some (.stk σ.stk.length,{ σ with stk:=σ.stk ++ [cs] }) else none
def boxOf (σ:St):Ref→Option (List AV)
  | .stk n=>σ.stk[n]?
  | .heap n=>match σ.heap[n]? with
    | some (.cells cs)=>some cs
    | _=>none
def setBox (σ:St) (r:Ref) (cs:List AV):St :=
  match r with
  | .stk n=>{ σ with stk:=σ.stk.set n cs }
  | .heap n=>{ σ with heap:=σ.heap.set n (.cells cs) }
def readCells (σ:St) (p:AV) (n:Nat):Option (List AV) :=
  match p with
  | .ptr r off=>(boxOf σ r).bind fun cs=>if off + n≤cs.length∧(n≠1∨(((cs.drop off).take n).map AV.look).all AV.isCell=true) then some (((cs.drop off).take n).map AV.look) else none
  | .rop cs=>if n≤cs.length then some (cs.take n) else none
  | _=>none
def splice (cs:List AV) (off:Nat) (vs:List AV):List AV :=
  match vs with
  | [v]=>cs.set off v
  | _=>cs.take off ++ vs ++ cs.drop (off + vs.length)
def mayHold (r:Ref) (vs:List AV):Bool :=
  match r with
  | .stk m=>underL m vs
  | .heap _=>underL 0 vs
def writeCells (σ:St) (r:Ref) (off:Nat) (vs:List AV):Option St :=
  (boxOf σ r).bind fun cs =>
    if off + vs.length≤cs.length && mayHold r vs then some (setBox σ r (splice cs off vs)) else none
def load (P:Program) (tk:Bool) (t:TypeId) (p:AV) (σ:St):Option (AV×St) :=
  match aggOf P t with
  | some true=>if P.cellsOf t=0 then none else (readCells σ p (P.cellsOf t)).map fun cs=>(.agg cs,σ)
  | some false=>match tk,p with
    | true,.ptr r off=>(boxOf σ r).bind fun cs=>match cs[off]? with
      | some v=>some (v,setBox σ r (splice cs off [v.left]))
      | none=>none
    | _,.ptr r off=>(boxOf σ r).bind fun cs=>match cs[off]? with
      | some v=>some (v.look,σ)
      | none=>none
    | _,.rop (v :: _)=>some (v,σ)
    | _,_=>none
  | none=>none
def store (P:Program) (t:TypeId) (p:AV) (v:AV) (σ:St):Option St :=
  match p with
  | .ptr r off=>if v.cells.length=P.cellsOf t∧P.cellsOf t≠0∧v.fit then writeCells σ r off v.cells else none
  | _=>none
def oneT (P:Program) (t:TypeId):Bool:=decide (aggOf P t=some false∧P.cellsOf t=1)
def storeU (P:Program) (t:TypeId) (p:AV) (v:AV) (σ:St):Option St :=
  match p with
  | .ptr r off=>if aggOf P t=some false∧P.cellsOf t=1∧v.fit∧(v.isCell∨v.kept) then (boxOf σ r).bind fun cs=>if cs.length=1∧off=0 then writeCells σ r off [v] else none
    else none
  | _=>none
def fieldOf (P:Program) (s:TypeId) (f:Nat):Option Field :=
  match P.underlying s with
  | some (.struct fs)=>fs[f]?
  | _=>none
def shift (p:AV) (o:Nat):Option AV :=
  match p with
  | .ptr r off=>some (.ptr r (off + o))
  | .rop cs=>some (.rop (cs.drop o))
  | _=>none
def indexAddr (P:Program) (t:TypeId) (x ix:AV):Option AV :=
  match ix with
  | .s (.int _ i) =>
    match P.underlying t,x with
    | some (.array n e),x=>if 0≤i∧i < n∧P.cellsOf e≠0 then shift x (i.toNat * P.cellsOf e) else none
    | some (.slice e),.list fl sz es=>if fl≠.uniq∧sz=P.cellsOf e∧sz≠0∧0≤i∧i < es.length then some (.rop (es.getD i.toNat .undef).cells) else none
    | some (.slice e),.row r off len _=>if 0≤i∧i < len∧P.cellsOf e≠0 then some (.ptr r (off + i.toNat * P.cellsOf e)) else none
    | _,_=>none
  | _=>none
def partOf (P:Program) (t:TypeId) (cs:List AV) (off:Nat):Option AV :=
  match aggOf P t with
  | some true=>if off + P.cellsOf t≤cs.length∧P.cellsOf t≠0 then some (.agg ((cs.drop off).take (P.cellsOf t))) else none
  | some false=>cs[off]?
  | none=>none
def index (P:Program) (t:TypeId) (x ix:AV):Option AV :=
  match ix with
  | .s (.int _ i) =>
    match P.underlying t,x with
    | some (.array n e),.agg cs=>if 0≤i∧i < n∧P.cellsOf e≠0 then partOf P e cs (i.toNat * P.cellsOf e) else none
    | some .string,.s (.str l)=>if 0≤i∧i < l.length then some (.s (.int .u8 (l.getD i.toNat 0).toNat)) else none
    | _,_=>none
  | _=>none
def bound (x:Option AV) (d:Nat):Option Nat :=
  match x with
  | none=>some d
  | some (.s (.int _ i))=>if 0≤i then some i.toNat else none
  | _=>none
def sliceOf (P:Program) (t:TypeId) (x:AV) (lo hi mx:Option AV):Option AV :=
  match P.underlying t,x with
  | some .string,.s (.str l) =>
    match mx,bound lo 0,bound hi l.length with
    | none,some a,some b=>if a≤b∧b≤l.length then some (.str ((l.take b).drop a)) else none
    | _,_,_=>none
  | some (.slice e),.s .nilS =>
    match mx,bound lo 0,bound hi 0 with
    | none,some 0,some 0=>if P.cellsOf e≠0 then some .nilS else none
    | _,_,_=>none
  | some (.slice e),.list fl sz es =>
    if fl = .uniq then none else
    match mx,bound lo 0,bound hi es.length with
    | none,some a,some b=>if a≤b∧b≤es.length∧sz=P.cellsOf e then some (.list (if fl = .full∧b=es.length then .full else .sh) sz ((es.take b).drop a)) else none
    | some m,some a,some b=>match hi,bound (some m) 0 with
      | some _,some m=>if a≤b∧b=m∧m≤es.length∧sz=P.cellsOf e then some (.list (if fl = .sh∧es=[] then .sh else .full) sz ((es.take b).drop a)) else none
      | _,_=>none
    | _,_,_=>none
  | some (.slice e),.row r off len cap =>
    match mx,bound lo 0,bound hi len with
    | none,some a,some b=>if a≤b∧b≤cap∧a < cap∧P.cellsOf e≠0 then some (.row r (off + a * P.cellsOf e) (b - a) (cap - a)) else none
    | some m,some a,some b=>match hi,bound (some m) 0 with
      | some _,some m=>if a=b∧b=m∧m≤cap∧P.cellsOf e≠0 then some (.list .full (P.cellsOf e) []) else none
      | _,_=>none
    | _,_,_=>none
  | some (.array n e),.ptr r off =>
    match mx,bound lo 0,bound hi n with
    | none,some a,some b=>if a≤b∧b≤n∧a < n∧P.cellsOf e≠0 then some (.row r (off + a * P.cellsOf e) (b - a) (n - a)) else none
    | _,_,_=>none
  | some (.array n e),.rop cs =>
    match mx,bound lo 0,bound hi n with
    | none,some a,some b=>if a≤b∧b≤n∧a < n∧P.cellsOf e=1∧n≤cs.length then some (.list .sh 1 ((cs.take b).drop a)) else none
    | _,_,_=>none
  | _,_=>none
def lenOf (P:Program) (t:TypeId) (x:AV) (σ:St):Option Nat :=
  match P.underlying t,x with
  | some .string,.s (.str l)=>some l.length
  | some (.slice _),.s .nilS=>some 0
  | some (.slice _),.list _ _ es=>some es.length
  | some (.slice _),.row _ _ len _=>some len
  | some (.slice _),.lenv n=>some n
  | some (.map _ _),.s .nilM=>some 0
  | some (.map _ _),.map h=>match σ.heap[h]? with
    | some (.map es _)=>some es.length
    | _=>none
  | some (.array n _),.agg _=>some n
  | _,_=>none
def capOf (P:Program) (t:TypeId) (x:AV):Option Nat :=
  match P.underlying t,x with
  | some (.slice _),.s .nilS=>some 0
  | some (.slice _),.list .full _ es=>some es.length
  | _,_=>none
def group (P:Program) (e:TypeId):Nat→List AV→List AV
  | 0,_=>[]
  | n + 1,cs=>pack P e (cs.take (P.cellsOf e)) :: group P e n (cs.drop (P.cellsOf e))
def bytesOf (P:Program) (e:TypeId):Nat:=((P.info? e).map (·.bytes)).getD 0
def elemOK (P:Program) (e:TypeId):Bool :=
  match zeroA P e with
  | some z=>z.cells.length == P.cellsOf e && P.cellsOf e != 0 && bytesOf P e != 0
  | none=>false
def elems (P:Program) (e:TypeId) (x:AV) (σ:St):Option (List AV) :=
  match x with
  | .s .nilS=>some []
  | .s (.str l)=>if P.cellsOf e=1 then some (l.map fun b => .s (.int .u8 b.toNat)) else none
  | .list _ sz es=>if sz=P.cellsOf e then some es else none
  | .row r off len _=>if isAgg P e || P.cellsOf e == 1 then (readCells σ (.ptr r off) (len * P.cellsOf e)).map (group P e len) else none
  | _=>none
def AV.isStr:AV→Bool
  | .s (.str _)=>true
  | _=>false
def AV.isSlice:AV→Bool
  | .s .nilS | .list .. | .row .. => true
  | _=>false
def srcOK (P:Program) (t:Option TypeId) (x:AV):Bool :=
  match t with
  | none=>false
  | some t=>match P.underlying t with
    | some .string=>x.isStr
    | some (.slice _)=>x.isSlice
    | _=>false
def append (P:Program) (sT:TypeId) (xT:Option TypeId) (s x:AV) (σ:St):Option (AV×St) :=
  match P.underlying sT with
  | some (.slice e) =>
    if !(srcOK P xT x && elemOK P e) then none else
    match elems P e x σ with
    | none=>none
    | some items =>
      if !AV.under.go 0 items then none else
      match s with
      | .s .nilS =>
        if items.isEmpty then some (.nilS,σ) else
        if items.length * bytesOf P e≤2 ^ 48 then some (.list .uniq (P.cellsOf e) items,σ) else none
      | .list fl sz es =>
        if sz≠P.cellsOf e then none else
        if items.isEmpty then some (.list fl sz es,σ) else
        match fl with
        | .sh=>none
        | .full=>if es.isEmpty then (if items.length * bytesOf P e≤2 ^ 48 then some (.list .uniq sz items,σ) else none)
          else if 2 * (es.length + items.length) * bytesOf P e≤2 ^ 48 then some (.list .own sz (es ++ items),σ) else none
        | .own=>if 2 * (es.length + items.length) * bytesOf P e≤2 ^ 48 then some (.list .own sz (es ++ items),σ) else none
        | .uniq=>if 2 * (es.length + items.length) * bytesOf P e≤2 ^ 48 then some (.list .uniq sz (es ++ items),σ) else none
      | .row r off len cap =>
        if len + items.length≤cap∧items≠[] then
          (writeCells σ r (off + len * P.cellsOf e) (items.flatMap AV.cells)).map fun σ=>(.row r off (len + items.length) cap,σ)
        else none
      | _=>none
  | _=>none
def copyTo (P:Program) (dT:TypeId) (xT:Option TypeId) (d x:AV) (σ:St):Option (AV×St) :=
  match P.underlying dT with
  | some (.slice e) =>
    if !(srcOK P xT x && elemOK P e) then none else
    match d,elems P e x σ with
    | .row r off len _,some items =>
      let items:=items.take len
      (writeCells σ r off (items.flatMap AV.cells)).map fun σ=>(.i items.length,σ)
    | _,_=>none
  | _=>none
def nowKind:TypeDesc→Bool
  | .int _ | .string | .bool=>true
  | _=>false
def keyEq (P:Program) (kT:TypeId) (a b:AV):Option Bool :=
  match a.toV,b.toV,P.underlying kT with
  | some x,some y,some d=>if nowKind d then Instr.sameNow d x y else val P (Op.equal kT x y)
  | _,_,_=>none
def findA (P:Program) (kT:TypeId) (k:AV):List Entry→Nat→Option (Option (Nat×Entry))
  | [],_=>some none
  | e :: es,i=>match keyEq P kT k e.key with
    | some true=>some (some (i,e))
    | some false=>findA P kT k es (i + 1)
    | none=>none
def keyMay (P:Program) (kT:TypeId) (k:AV):Bool :=
  match k.toV with
  | some x=>(val P (Instr.checkKey false 10000 kT x)).isSome && (val P (Instr.checkKey true 10000 kT x)).isSome
  | none=>false
def mapOf (σ:St) (m:AV):Option (List Entry×Nat) :=
  match m with
  | .s .nilM=>some ([],0)
  | .map h=>match σ.heap[h]? with
    | some (.map es c)=>some (es,c)
    | _=>none
  | _=>none
def lookup (P:Program) (t:TypeId) (m k:AV) (ok:Bool) (σ:St):Option AV :=
  match P.underlying t with
  | some (.map kT eT) =>
    if !keyMay P kT k then none else
    match mapOf σ m with
    | none=>none
    | some (es,_)=>match findA P kT k es 0 with
      | some (some (_,e))=>some (if ok then .tup [e.val,.bool true] else e.val)
      | some none=>(zeroA P eT).map fun z=>if ok then .tup [z,.bool false] else z
      | none=>none
  | _=>none
def setMap (σ:St) (h:Nat) (es:List Entry) (c:Nat):St:={ σ with heap:=σ.heap.set h (.map es c) }
def update (P:Program) (t:TypeId) (m k v:AV) (σ:St):Option St :=
  match P.underlying t with
  | some (.map kT _) =>
    if !keyMay P kT k || !AV.under 0 v then none else
    match m with
    | .map h=>match mapOf σ (.map h) with
      | none=>none
      | some (es,c)=>match findA P kT k es 0 with
        | some (some (i,e))=>match e.key.toV,k.toV with
          | some old,some new=>if Instr.sameBits 10000 old new then some (setMap σ h (es.set i { e with key:=k,val:=v }) c) else none
          | _,_=>none
        | some none=>some (setMap σ h (es ++ [⟨k,v,c⟩]) (c + 1))
        | none=>none
    | _=>none
  | _=>none
def deleteA (P:Program) (t:TypeId) (m k:AV) (σ:St):Option St :=
  match P.underlying t with
  | some (.map kT _) =>
    if !keyMay P kT k then none else
    match m with
    | .s .nilM=>some σ
    | .map h=>match mapOf σ (.map h) with
      | none=>none
      | some (es,c)=>match findA P kT k es 0 with
        | some (some (i,_))=>some (setMap σ h (es.eraseIdx i) c)
        | some none=>some (setMap σ h es c)
        | none=>none
    | _=>none
  | _=>none
def fillA (place:Nat→Option (Nat×Nat)) (cs:List AV):List (Nat×AV)→Option (List AV)
  | []=>some cs
  | (i,v) :: rest=>match place i with
    | none=>none
    | some (off,size)=>if v.cells.length≠size∨off + size > cs.length∨!v.fit then none else fillA place (cs.take off ++ v.cells ++ cs.drop (off + size)) rest
def structPlaces (P:Program) (t:TypeId):Option (List (Nat×Nat)) :=
  match P.underlying t with
  | some (.struct fields)=>fields.toList.mapM fun f=>(P.info? f.type).map fun i=>(f.offset,i.size)
  | _=>none
def arrayCells (P:Program) (t:TypeId):Option Nat :=
  match P.underlying t with
  | some (.array _ e)=>(P.info? e).map (·.size)
  | _=>none
def build (P:Program) (t:TypeId) (parts:List (Nat×AV)):Option AV :=
  match zeroA P t with
  | none=>none
  | some z=>match structPlaces P t with
    | some places=>(fillA (fun i=>places[i]?) z.cells parts).map .agg
    | none=>match arrayCells P t with
      | some n=>(fillA (fun i=>some (i * n,n)) z.cells parts).map .agg
      | none=>none
def fillE (n:Nat) (es:List AV):List (Nat×AV)→Option (List AV)
  | []=>some es
  | (i,v) :: rest=>if v.cells.length=n∧i < es.length∧AV.under 0 v∧v.fit then fillE n (es.set i v) rest else none
def buildSlice (P:Program) (t:TypeId) (len:Nat) (parts:List (Nat×AV)):Option AV :=
  match P.underlying t with
  | some (.slice e) =>
    if len=0 then (if elemOK P e∧parts.isEmpty then some (.list .full (P.cellsOf e) []) else none) else
    if !elemOK P e∨len * P.cellsOf e > 2 ^ 24 then none else
    match zeroA P e with
    | some z=>(fillE (P.cellsOf e) (List.replicate len z) parts).map (.list .full (P.cellsOf e))
    | none=>none
  | _=>none
def makeSlice (P:Program) (asList heap:Bool) (t:TypeId) (len cap:AV) (σ:St):Option (AV×St) :=
  match P.underlying t,len,cap with
  | some (.slice e),.s (.int _ l),.s (.int _ c) =>
    if 0≤l∧l≤c∧c≤2 ^ 32∧bytesOf P e * c≤2 ^ 47∧elemOK P e then
      match zeroA P e with
      | some z =>
        if asList then some (.list .uniq (P.cellsOf e) (List.replicate l.toNat z),σ)
        else (newBox heap (List.replicate c.toNat z.cells).flatten σ).map fun (r,σ)=>(.row r 0 l.toNat c.toNat,σ)
      | none=>none
    else none
  | _,_,_=>none
def AV.refKind:AV→Option Nat
  | .ptr .. | .rop _=>some 0
  | .list .sh _ []=>none
  | .list .. | .row .. => some 1
  | .map _=>some 2
  | .fn .. => some 3
  | _=>none
def AV.nilKind:AV→Option Nat
  | .s .nilP=>some 0
  | .s .nilS=>some 1
  | .s .nilM=>some 2
  | .s .nilF=>some 3
  | _=>none
def typeKind (P:Program) (t:TypeId):Option Nat :=
  match P.underlying t with
  | some (.pointer _)=>some 0
  | some (.slice _)=>some 1
  | some (.map ..)=>some 2
  | some (.func ..)=>some 3
  | _=>none
def oneNil (P:Program) (t:TypeId) (x y:AV):Bool :=
  match typeKind P t with
  | some k=>(x.refKind == some k && y.nilKind == some k) || (x.nilKind == some k && y.refKind == some k)
  | none=>false
def binOp (P:Program) (op:BinOp) (t:TypeId) (xo yo:Operand) (x y:AV):Option AV :=
  match x.toV,y.toV with
  | some a,some b=>(val P (do eqGuard op t xo yo a b; Go.binOp op t a b)).bind AV.ofPlain
  | _,_ =>
    if oneNil P t x y then match op with
      | .eql=>some (.bool false)
      | .neq=>some (.bool true)
      | _=>none
    else none
def unOp (P:Program) (op:UnOp) (x:AV):Option AV :=
  match x with
  | .s x=>(val P (Op.unary op x.toV)).bind AV.ofPlain
  | _=>none
def bytesIn:List AV→Option (List UInt8)
  | []=>some []
  | .s (.int .u8 n) :: r=>(bytesIn r).map (UInt8.ofNat n.toNat :: ·)
  | _=>none
def convert (P:Program) (src dst:TypeId) (x:AV) (σ:St):Option AV :=
  match P.underlying src,P.underlying dst,x with
  | some _,some (.int k),.s (.int _ n)=>some (.s (.int k (k.wrap n)))
  | some _,some .string,.s (.str l)=>some (.str l)
  | some .string,some (.slice e),.s (.str l)=>match P.underlying e with
    | some (.int .u8)=>if l.length < 2 ^ 46∧elemOK P e∧P.cellsOf e=1 then some (.list .uniq 1 (l.map fun b => .s (.int .u8 b.toNat))) else none
    | _=>none
  | some (.slice e),some .string,x=>match P.underlying e with
    | some (.int .u8)=>if x.isSlice && P.cellsOf e == 1 then ((elems P e x σ).bind bytesIn).map .str else none
    | _=>none
  | _,_,_=>none
def thaw (fr:Fr) (x:Operand) (σ:St):Option (AV×Fr×St) :=
  match x with
  | .tmp t=>match fr.getD t .undef with
    | .list .uniq _ es=>if es.isEmpty then none else (newBox false (es.flatMap AV.cells) σ).map fun (r,σ)=>(.row r 0 es.length es.length,fr.set t (.row r 0 es.length es.length),σ)
    | .s .nilS=>some (.nilS,fr,σ)
    | _=>none
  | _=>none
def freeze (P:Program) (t:TypeId) (v:AV) (σ:St):Option (AV×St) :=
  match P.underlying t,v with
  | some (.slice e),.row (.stk n) 0 len _ =>
    (readCells σ (.ptr (.stk n) 0) (len * P.cellsOf e)).bind fun cs =>
      if underL 0 cs∧0 < P.cellsOf e∧(isAgg P e || P.cellsOf e == 1) then some (.list .sh (P.cellsOf e) (group P e len cs),{ σ with stk:=σ.stk.set n [] }) else none
  | some (.slice _),.s .nilS=>some (.nilS,σ)
  | _,_=>none
def clearA (P:Program) (t:TypeId) (v:AV) (σ:St):Option St :=
  match P.underlying t,v with
  | some (.slice e),.row r off len _=>(zeroA P e).bind fun z=>if elemOK P e then writeCells σ r off (List.replicate len z.cells).flatten else none
  | some (.slice _),.s .nilS=>some σ
  | some (.slice _),.list _ _ []=>some σ
  | _,_=>none
def evOp (C:Tgt→List AV→St→Option (AV×St)) (P:Program) (cfg:Cfg) (f:FuncId) (o:Oper) (fr:Fr) (σ:St):Option (AV×Fr×St) :=
  let d:=o.dst.getD 0
  let hp:=cfg.heap f d
  let tk:=cfg.take f d
  let pureA (v:Option AV):Option (AV×Fr×St):=v.map fun v=>(v,fr,σ)
  match o.op with
  | .move x=>if cfg.thaw f d then thaw fr x σ else if cfg.freeze f d then (freeze P o.type (seen fr x) σ).map fun (v,σ)=>(v,fr,σ)
    else let r:=taken tk fr x; some (r.1,r.2,σ)
  | .assign x=>if cfg.freeze f d then (freeze P o.type (seen fr x) σ).map fun (v,σ)=>(v,fr,σ)
    else let r:=taken true fr x; some (r.1,r.2,σ)
  | .pick c a b=>match seen fr c with
    | .s (.bool c)=>some ((if c then seen fr a else seen fr b),fr,σ)
    | _=>none
  | .alloc t=>(zeroA P t).bind fun z=>(newBox hp z.cells σ).map fun (r,σ)=>(.ptr r 0,fr,σ)
  | .box _ x=>let r:=taken tk fr x; if !r.1.fit then none else (newBox hp r.1.calm.cells σ).map fun (q,σ)=>(.ptr q 0,r.2,σ)
  | .build t parts=>pureA (build P t (parts.toList.map fun (i,x)=>(i,seen fr x)))
  | .buildSlice t n parts=>pureA (buildSlice P t n (parts.toList.map fun (i,x)=>(i,seen fr x)))
  | .load t x=>(load P tk t (seen fr x) σ).map fun (v,σ)=>(v,fr,σ)
  | .store t p x=>let r:=taken true fr x; (if (cfg.keep f && oneT P t)=true then storeU P t (seen r.2 p) r.1 σ else store P t (seen r.2 p) r.1.calm σ).map fun σ=>(.undef,r.2,σ)
  | .nilCheck x=>match seen fr x with
    | .ptr r o=>some (.ptr r o,fr,σ)
    | .rop cs=>some (.rop cs,fr,σ)
    | .map h=>some (.map h,fr,σ)
    | .fn (.func g) a c=>some (.fn (.func g) a c,fr,σ)
    | _=>none
  | .binOp op t x y _=>pureA (binOp P op t x y (seen fr x) (seen fr y))
  | .unOp op _ x=>pureA (unOp P op (seen fr x))
  | .convert a b x=>pureA (convert P a b (seen fr x) σ)
  | .makeFunc fn first captured=>pureA (some (.fn fn (first.toList.map fun x=>seen fr x) (captured.toList.map fun x=>seen fr x)))
  | .makeMap t r=>match r with
    | none=>some (.map σ.heap.length,fr,{ σ with heap:=σ.heap ++ [.map [] 0] })
    | some x=>match P.underlying t,seen fr x with
      | some (.map ..),.s (.int ..)=>some (.map σ.heap.length,fr,{ σ with heap:=σ.heap ++ [.map [] 0] })
      | _,_=>none
  | .makeSlice t l c=>(makeSlice P tk hp t (seen fr l) (seen fr c) σ).map fun (v,σ)=>(v,fr,σ)
  | .slice t x lo hi mx=>pureA (sliceOf P t (seen fr x) (lo.map (seen fr)) (hi.map (seen fr)) (mx.map (seen fr)))
  | .fieldAddr s x i=>pureA ((fieldOf P s i).bind fun q=>if P.cellsOf q.type=0 then none else shift (seen fr x) q.offset)
  | .field s x i=>pureA ((fieldOf P s i).bind fun q=>match seen fr x with
    | .agg cs=>partOf P q.type cs q.offset
    | _=>none)
  | .indexAddr t x ix=>pureA (indexAddr P t (seen fr x) (seen fr ix))
  | .index t x ix=>pureA (index P t (seen fr x) (seen fr ix))
  | .lookup t x ix ok=>pureA (lookup P t (seen fr x) (seen fr ix) ok σ)
  | .mapUpdate t m k v | .insert t m k v=>(update P t (seen fr m) (seen fr k) (seen fr v) σ).map fun σ=>(.undef,fr,σ)
  | .extract x i=>pureA (match seen fr x with
    | .tup vs=>vs[i]?
    | _=>none)
  | .call c=>match c.callee with
    | .builtin .len=>pureA (match c.argTypes.toList,c.args.toList with
      | [t],[x]=>(lenOf P t (seen fr x) σ).map fun (n:Nat)=>AV.i n
      | _,_=>none)
    | .builtin .cap=>pureA (match c.argTypes.toList,c.args.toList with
      | [t],[x]=>(capOf P t (seen fr x)).map fun (n:Nat)=>AV.i n
      | _,_=>none)
    | .builtin .append=>match c.argTypes.toList,c.args.toList with
      | [t,tx],[s,x]=>let r:=taken true fr s; (append P t (some tx) r.1 (seen r.2 x) σ).map fun (v,σ)=>(v,r.2,σ)
      | _,_=>none
    | .builtin .copy=>match c.argTypes.toList,c.args.toList with
      | [t,tx],[d,x]=>(copyTo P t (some tx) (seen fr d) (seen fr x) σ).map fun (v,σ)=>(v,fr,σ)
      | _,_=>none
    | .builtin .delete=>match c.argTypes.toList,c.args.toList with
      | t :: _,[m,k]=>(deleteA P t (seen fr m) (seen fr k) σ).map fun σ=>(.tup [],fr,σ)
      | _,_=>none
    | .builtin .clear=>match c.argTypes.toList,c.args.toList with
      | [t],[x]=>(clearA P t (seen fr x) σ).map fun σ=>(.tup [],fr,σ)
      | _,_=>none
    | .builtin .min=>match c.args.toList.map (seen fr) with
      | [.s (.int k a),.s (.int k' b)]=>if k=k' then some (.s (.int k (if b < a then b else a)),fr,σ) else none
      | _=>none
    | .builtin .max=>match c.args.toList.map (seen fr) with
      | [.s (.int k a),.s (.int k' b)]=>if k=k' then some (.s (.int k (if b > a then b else a)),fr,σ) else none
      | _=>none
    | .value g=>match seen fr g with
      | .fn (.func h) first captured =>
        let r:=takenAll fr c.args.toList
        (C (.fn h) (first ++ r.1 ++ captured) σ).map fun (v,σ)=>(v,r.2,σ)
      | .yield h =>
        let r:=takenAll fr c.args.toList
        (C (.yield h) r.1 σ).map fun (v,σ)=>(v,r.2,σ)
      | _=>none
    | _=>none
  | _=>none
def settled:Op→List Operand
  | .build _ ps=>ps.toList.map (·.2)
  | .buildSlice _ _ ps=>ps.toList.map (·.2)
  | .mapUpdate _ _ _ v=>[v]
  | .insert _ _ _ v=>[v]
  | .convert _ _ x=>[x]
  | .slice _ x _ _ _=>[x]
  | .indexAddr _ x _=>[x]
  | .call c=>match c.callee with
    | .builtin .append=>c.args.toList.drop 1
    | .builtin .len | .builtin .cap=>c.args.toList
    | _=>[]
  | _=>[]
def settle (fr:Fr):List Operand→Fr
  | []=>fr
  | x :: xs=>settle (taken false fr x).2 xs
def putA (dst:Option Tmp) (v:AV) (fr:Fr):Fr :=
  match dst with
  | some d=>fr.set d v
  | none=>fr
def guardA (ops:Array Oper) (fr:Fr) (o:Oper):Option Bool :=
  match o.guard with
  | none=>some true
  | some (j,want)=>match (ops[j]?).bind (·.dst) with
    | some d=>match fr[d]? with
      | some (.s (.bool b))=>some (b == want)
      | some (.tup [])=>some false
      | _=>none
    | none=>none
def stepA (C:Tgt→List AV→St→Option (AV×St)) (P:Program) (cfg:Cfg) (f:FuncId) (ops:Array Oper) (i:Nat) (fr:Fr) (σ:St):Option (Fr×St) :=
  match ops[i]? with
  | none=>none
  | some o=>match guardA ops fr o with
    | some true=>match evOp C P cfg f o (settle fr (settled o.op)) σ with
      | some (v,fr,σ)=>some (putA o.dst v fr,σ)
      | none=>none
    | some false=>some (putA o.dst (.tup []) fr,σ)
    | none=>none
def evOps (C:Tgt→List AV→St→Option (AV×St)) (P:Program) (cfg:Cfg) (f:FuncId) (ops:Array Oper):List Nat→Fr→St→Option (Fr×St)
  | [],fr,σ=>some (fr,σ)
  | i :: rest,fr,σ=>match stepA C P cfg f ops i fr σ with
    | some (fr,σ)=>evOps C P cfg f ops rest fr σ
    | none=>none
def readerOp (cfg:Cfg) (f:FuncId) (o:Oper):Bool :=
  match o.op with
  | .move _ => !cfg.thaw f (o.dst.getD 0) && !cfg.freeze f (o.dst.getD 0) && !cfg.take f (o.dst.getD 0)
  | .load _ _ => !cfg.take f (o.dst.getD 0)
  | .pick .. | .nilCheck _ | .binOp .. | .unOp .. | .convert .. | .fieldAddr .. | .field .. | .indexAddr .. | .index .. | .lookup .. | .extract .. | .slice .. | .makeFunc .. | .build .. | .buildSlice .. => true
  | .call c=>match c.callee with
    | .builtin .len | .builtin .cap=>true
    | _=>false
  | _=>false
def AV.isUniq:AV→Bool
  | .list .uniq _ _=>true
  | _=>false
def calmAt (fr:Fr):Operand→Bool
  | .tmp t => !(fr.getD t .undef).isUniq
  | _=>true
def readV (C:Tgt→List AV→St→Option (AV×St)) (P:Program) (cfg:Cfg) (f:FuncId) (ops:Array Oper) (i:Nat) (fr:Fr) (σ:St):Option AV :=
  match ops[i]? with
  | none=>none
  | some o=>match guardA ops fr o with
    | some true=>if readerOp cfg f o && o.op.operands.toList.all (calmAt fr) then (evOp C P cfg f o fr σ).map (·.1) else none
    | some false=>some (.tup [])
    | none=>none
def depA (ops:Array Oper) (i:Nat) (fr:Fr):Bool :=
  match ops[i]? with
  | some o=>match o.op with
    | .load _ x=>match seen fr x with
      | .rop _=>false
      | _=>true
    | .lookup .. => true
    | .convert _ _ x=>match seen fr x with
      | .row .. => true
      | _=>false
    | .call c=>match c.args[0]? with
      | some x=>match seen fr x with
        | .map _=>true
        | _=>false
      | none=>true
    | _=>false
  | none=>true
def dstOf (ops:Array Oper) (i:Nat):Option Tmp:=(ops[i]?).bind (·.dst)
def isReader (cfg:Cfg) (f:FuncId) (ops:Array Oper) (i:Nat):Bool :=
  match ops[i]? with
  | some o=>readerOp cfg f o
  | none=>false
def sameV (x:Option AV) (v:AV):Bool :=
  match x with
  | some u=>u.beq v
  | none=>false
def hangsOn (ops:Array Oper) (j k:Nat):Bool :=
  match ops[j]? with
  | some o=>o.after.any fun e=>Region.binds .any e && e.on == k
  | none=>false
def evPlan (C:Tgt→List AV→St→Option (AV×St)) (P:Program) (cfg:Cfg) (f:FuncId) (ops:Array Oper):List Nat→Fr→St→List (Nat×(St→Bool))→Option (Fr×St)
  | [],fr,σ,_=>some (fr,σ)
  | i :: rest,fr,σ,chk =>
    if isReader cfg f ops i then
      match readV C P cfg f ops i fr σ with
      | some v=>evPlan C P cfg f ops rest (putA (dstOf ops i) v fr) σ (if depA ops i fr then (i,fun σ'=>sameV (readV C P cfg f ops i fr σ') v) :: chk else chk)
      | none=>none
    else match stepA C P cfg f ops i fr σ with
      | some (fr',σ')=>if (chk.filter fun c => !hangsOn ops i c.1).all (fun c=>c.2 σ') then evPlan C P cfg f ops rest fr' σ' (chk.filter fun c => !hangsOn ops i c.1) else none
      | none=>none
def maskOf:List Nat→Nat
  | []=>0
  | t :: l=>maskOf l ||| 2 ^ t
structure Info where
  edges:Nat
  looks:Nat
  dst:Option Nat
  rd:Bool
def infoOf (cfg:Cfg) (f:FuncId) (ops:Array Oper) (o:Oper):Info :=
  { edges:=maskOf ((o.after.toList.filter (Region.binds .any)).map (·.on)),looks:=maskOf (o.looksAt ops),dst:=o.dst,rd:=readerOp cfg f o }
def Info.ready (I:Info) (i listed:Nat):Bool := !listed.testBit i && (I.edges &&& listed == I.edges)
def Info.apart (x y:Info):Bool :=
  (match x.dst with
   | some d => !y.looks.testBit d && y.dst != some d
   | none=>true) &&
  (match y.dst with
   | some d => !x.looks.testBit d
   | none=>true)
def allFrom (p:Info→Nat→Bool):List Info→Nat→Bool
  | [],_=>true
  | I :: l,i=>p I i && allFrom p l (i + 1)
def nth:List Info→Nat→Option Info
  | [],_=>none
  | I :: _,0=>some I
  | _ :: l,n + 1=>nth l n
def planFast (is:List Info):List Nat→Nat→Bool
  | [],listed=>allFrom (fun I i => !I.ready i listed) is 0
  | i :: rest,listed =>
    match nth is i with
    | none=>false
    | some I=>I.ready i listed &&
      (if I.rd then allFrom (fun J j=>j == i || listed.testBit j || J.edges.testBit i || I.apart J) is 0
        else allFrom (fun J j=>j == i || !J.ready j listed) is 0) &&
      planFast is rest (listed ||| 2 ^ i)
def plansIn (cfg:Cfg) (f:FuncId):Code→Bool
  | .region id ops true=>(cfg.plan f id).isEmpty || (decide ((cfg.plan f id).length≤ops.size) && planFast (ops.toList.map (infoOf cfg f ops)) (cfg.plan f id) 0)
  | .seq a b=>plansIn cfg f a && plansIn cfg f b
  | .cond _ a b=>plansIn cfg f a && plansIn cfg f b
  | .block _ b=>plansIn cfg f b
  | .loop b=>plansIn cfg f b
  | .rangeFunc _ _ a b=>plansIn cfg f a && plansIn cfg f b
  | _=>true
def plansOK (P:Program) (cfg:Cfg):Bool :=
  (List.range P.funcs.size).all fun f=>match P.funcs[f]? with
    | some fn=>match fn.body with
      | some c=>plansIn cfg f c
      | none=>true
    | none=>true
def keep:List Bool→Fr→Fr
  | true :: m,x :: xs=>x :: keep m xs
  | false :: m,_ :: xs => .undef :: keep m xs
  | _,xs=>xs
def evLoop (body:Fr→St→Option (Ex×Fr×St)) (mask:List Bool) (n0:Nat):Nat→Fr→St→Option (Ex×Fr×St)
  | 0,_,_=>none
  | n + 1,fr,σ =>
    let fr:=keep mask fr
    if underL n0 fr then
      match body fr { σ with stk:=σ.stk.take n0 } with
      | some (.normal,fr,σ)=>evLoop body mask n0 n fr σ
      | r=>r
    else none
def hasBody (P:Program) (h:FuncId):Bool :=
  match P.funcs[h]? with
  | some fn=>fn.body.isSome
  | none=>false
def lasting (v:AV):AV:=if AV.under 0 v.look then v.look else .undef
def evCode (C:Tgt→List AV→St→Option (AV×St)) (P:Program) (cfg:Cfg) (n:Nat) (rd:Bool) (f:FuncId):Nat→Code→Fr→St→Option (Ex×Fr×St)
  | _,.skip,fr,σ=>some (.normal,fr,σ)
  | _,.region _ ops false,fr,σ=>(evOps C P cfg f ops (List.range ops.size) fr σ).map fun (fr,σ)=>(.normal,fr,σ)
  | _,.region id ops true,fr,σ=>if (cfg.plan f id).isEmpty then none else (evPlan C P cfg f ops (cfg.plan f id) fr σ []).map fun (fr,σ)=>(.normal,fr,σ)
  | k,.seq a b,fr,σ=>match evCode C P cfg n rd f k a fr σ with
    | some (.normal,fr,σ)=>evCode C P cfg n rd f k b fr σ
    | r=>r
  | k,.cond c a b,fr,σ=>match opnd fr c with
    | .s (.bool true)=>evCode C P cfg n rd f k a fr σ
    | .s (.bool false)=>evCode C P cfg n rd f k b fr σ
    | _=>none
  | _,.block id b,fr,σ=>match evCode C P cfg n rd f id b fr σ with
    | some (.exit id',fr,σ)=>if id'=id then some (.normal,fr,σ) else some (.exit id',fr,σ)
    | r=>r
  | k,.loop b,fr,σ=>evLoop (evCode C P cfg n rd f k b) (cfg.mask f k) σ.stk.length n fr σ
  | _,.exit id,fr,σ=>some (.exit id,fr,σ)
  | _,.ret,fr,σ=>some (.ret,fr,σ)
  | _,.rangeFunc g ps a b,fr,σ =>
    if rd then none else
    match seen fr g with
    | .fn (.func h) first captured =>
      if !hasBody P h then none else
      match C (.fn h) (first ++ [.yield σ.heap.length] ++ captured) { σ with heap:=σ.heap ++ [.loop { fid:=f,fr:=fr.map lasting,params:=ps.toList,assign:=a,body:=b,ready:=true,pending:=none }] } with
      | some (_,σ')=>match σ'.heap[σ.heap.length]? with
        | some (.loop l)=>if l.ready || l.pending.isSome then some (l.pending.getD .normal,fr,{ σ' with heap:=σ'.heap.set σ.heap.length .dead }) else none
        | _=>none
      | none=>none
    | _=>none
  | _,_,_,_=>none
def setAll:List Tmp→List AV→Fr→Fr
  | t :: ts,v :: vs,fr=>setAll ts vs (fr.set t v)
  | _,_,fr=>fr
def setLoop (σ:St) (h:Nat) (l:LoopA):St:={ σ with heap:=σ.heap.set h (.loop l) }
def loopOf (σ:St) (h:Nat):Option LoopA :=
  match σ.heap[h]? with
  | some (.loop l)=>some l
  | _=>none
def evRound (C:Tgt→List AV→St→Option (AV×St)) (P:Program) (cfg:Cfg) (n:Nat) (h:Nat) (args:List AV) (σ:St):Option (AV×St) :=
  match loopOf σ h with
  | some l =>
    if args.length=l.params.length && plansIn cfg l.fid l.assign && plansIn cfg l.fid l.body then
      match evCode C P cfg n true l.fid 0 l.assign (setAll l.params (args.map AV.look) l.fr) σ with
      | some (.normal,fr,σ1)=>match loopOf σ1 h with
        | some l1 => if l1.ready && l1.pending.isNone then
            match evCode C P cfg n true l.fid 0 l.body fr (setLoop σ1 h { l1 with ready:=false }) with
            | some (e,_,σ')=>match loopOf σ' h with
              | some l2=>some (.bool (e = .normal),{ setLoop σ' h { l2 with ready:=decide (e = .normal),pending:=if e = .normal then none else some e } with stk:=σ'.stk.take σ.stk.length })
              | none=>none
            | none=>none
          else none
        | none=>none
      | _=>none
    else none
  | none=>none
def resultA (P:Program) (fr:Fr) (σ:St):ResultVar→Option AV
  | .tmp t=>some (fr.getD t .undef)
  | .cell a t=>(load P false t (fr.getD a .undef) σ).map (·.1)
def resultsA (P:Program) (fr:Fr) (σ:St):List ResultVar→Option (List AV)
  | []=>some []
  | r :: rs=>match resultA P fr σ r,resultsA P fr σ rs with
    | some v,some vs=>some (v :: vs)
    | _,_=>none
def finish (P:Program) (base:Nat) (fn:Func) (fr:Fr) (σ:St):Option (AV×St) :=
  match resultsA P fr σ fn.results.toList with
  | some [v]=>if v.under base then some (v,{ σ with stk:=σ.stk.take base }) else none
  | some vs=>if underL base vs then some (.tup (vs.map AV.look),{ σ with stk:=σ.stk.take base }) else none
  | none=>none
def evBody (C:Tgt→List AV→St→Option (AV×St)) (P:Program) (cfg:Cfg) (n:Nat) (f:FuncId) (args:List AV) (σ:St):Option (AV×St) :=
  match P.funcs[f]? with
  | some fn=>match fn.body with
    | some c=>match evCode C P cfg n false f 0 c (args ++ List.replicate (fn.ntmps - args.length) .undef) σ with
      | some (.normal,fr,σ') | some (.ret,fr,σ')=>finish P σ.stk.length fn fr σ'
      | _=>none
    | none=>none
  | none=>none
def ev (P:Program) (cfg:Cfg):Nat→Tgt→List AV→St→Option (AV×St)
  | 0,_,_,_=>none
  | n + 1,.fn f,args,σ=>match cfg.prim f with
    | some p=>p args σ
    | none=>evBody (ev P cfg n) P cfg n f args σ
  | n + 1,.yield h,args,σ=>evRound (ev P cfg n) P cfg n h args σ
end Go.AM
namespace Go.AM
open Go
structure G where
  sb:List Nat
  hb:List Nat
  wr:Nat→Nat→Prop
def G.isBox (g:G) (b:Nat):Prop:=b∈g.sb∨b∈g.hb
def G.ref (g:G):Ref→Option Nat
  | .stk n=>g.sb[n]?
  | .heap n=>g.hb[n]?
def Lies (g:G) (w:World) (a:Addr) (xs:List Value):Prop :=
  ∀i v,xs[i]? = some v→w.cell? ⟨a.block,a.off + i,none⟩=some v∧¬g.wr a.block (a.off + i)
def Elems (sz:Nat) (es:List AV):Prop:=∀e∈es,e.cells.length=sz∧∀c∈e.cells,c.isCell=true
inductive VL (g:G) (w:World):List AV→List Value→Prop
  | nil:VL g w [] []
  | sc (x:Sc) {azz:List AV} {vs:List Value}:VL g w azz vs→VL g w (.s x :: azz) (x.toV :: vs)
  | undef (v:Value) {azz:List AV} {vs:List Value}:VL g w azz vs→VL g w (.undef :: azz) (v :: vs)
  | agg {cs:List AV} {xs:Array Value} {azz:List AV} {vs:List Value}:(∀c∈cs,c.isCell=true)→VL g w cs xs.toList→VL g w azz vs→VL g w (.agg cs :: azz) (.agg xs :: vs)
  | tup {cs:List AV} {xs:Array Value} {azz:List AV} {vs:List Value}:VL g w cs xs.toList→VL g w azz vs→VL g w (.tup cs :: azz) (.tuple xs :: vs)
  | list {fl : Fl} {sz : Nat} {es : List AV} {a : Addr} {len cap : Nat} {xs : List Value} {azz : List AV} {vs : List Value} :
      (fl = .sh∨fl = .full∧cap=len)→len=es.length→len≤cap→0 < sz→(es=[]∨a.spot=none)→Elems sz es→AV.under.go 0 es=true →
      VL g w (es.flatMap AV.cells) xs→Lies g w a xs→VL g w azz vs→VL g w (.list fl sz es :: azz) (.slice (some a) len cap :: vs)
  | lnil {sz:Nat} {azz:List AV} {vs:List Value}:0 < sz→VL g w azz vs→VL g w (.list .sh sz [] :: azz) (.slice none 0 0 :: vs)
  | rop {cs : List AV} {a : Addr} {xs : List Value} {azz : List AV} {vs : List Value} :
      a.spot=none→(∀c∈cs,c.isCell=true)→AV.under.go 0 cs=true→VL g w cs xs→Lies g w a xs→VL g w azz vs→VL g w (.rop cs :: azz) (.pointer (some a) :: vs)
  | ptr {r:Ref} {off b:Nat} {azz:List AV} {vs:List Value}:g.ref r=some b→VL g w azz vs→VL g w (.ptr r off :: azz) (.pointer (some ⟨b,off,none⟩) :: vs)
  | row {r:Ref} {off len cap c b:Nat} {azz:List AV} {vs:List Value}:g.ref r=some b→len≤cap→cap≤c→VL g w azz vs→VL g w (.row r off len cap :: azz) (.slice (some ⟨b,off,none⟩) len c :: vs)
  | map {h b:Nat} {azz:List AV} {vs:List Value}:g.hb[h]? = some b→VL g w azz vs→VL g w (.map h :: azz) (.map (some b) :: vs)
  | yield {h b:Nat} {azz:List AV} {vs:List Value}:g.hb[h]? = some b→VL g w azz vs→VL g w (.yield h :: azz) (.func (.yield b) #[] #[] :: vs)
  | lenv {n cap:Nat} {a:Option Addr} {azz:List AV} {vs:List Value}:VL g w azz vs→VL g w (.lenv n :: azz) (.slice a n cap :: vs)
  | fn {f:Fn} {a c:List AV} {xs ys:Array Value} {azz:List AV} {vs:List Value}:VL g w a xs.toList→VL g w c ys.toList→VL g w azz vs→VL g w (.fn f a c :: azz) (.func f xs ys :: vs)
abbrev V (g:G) (w:World) (a:AV) (v:Value):Prop:=VL g w [a] [v]
section
variable {g g':G} {w w':World}
theorem VL.cons_of {a:AV} {v:Value} {azz:List AV} {vs:List Value} (h:V g w a v) (t:VL g w azz vs):VL g w (a :: azz) (v :: vs):=by
  cases h with
  | sc x _=>exact .sc x t
  | undef v _=>exact .undef v t
  | agg h0 h1 _=>exact .agg h0 h1 t
  | tup h1 _=>exact .tup h1 t
  | list h1 h2 h3 h4 h5 h6 h7 h8 h9 _=>exact .list h1 h2 h3 h4 h5 h6 h7 h8 h9 t
  | lnil h1 _=>exact .lnil h1 t
  | rop h1 h2 h3 h4 h5 _=>exact .rop h1 h2 h3 h4 h5 t
  | ptr h1 _=>exact .ptr h1 t
  | row h1 h2 h3 _=>exact .row h1 h2 h3 t
  | map h1 _=>exact .map h1 t
  | fn h1 h2 _=>exact .fn h1 h2 t
  | yield h1 _=>exact .yield h1 t
  | lenv _=>exact .lenv t
theorem VL.inv {a:AV} {v:Value} {azz:List AV} {vs:List Value} (h:VL g w (a :: azz) (v :: vs)):V g w a v∧VL g w azz vs:=by
  cases h with
  | sc x t=>exact ⟨.sc x .nil,t⟩
  | undef v t=>exact ⟨.undef v .nil,t⟩
  | agg h0 h1 t=>exact ⟨.agg h0 h1 .nil,t⟩
  | tup h1 t=>exact ⟨.tup h1 .nil,t⟩
  | list h1 h2 h3 h4 h5 h6 h7 h8 h9 t=>exact ⟨.list h1 h2 h3 h4 h5 h6 h7 h8 h9 .nil,t⟩
  | lnil h1 t=>exact ⟨.lnil h1 .nil,t⟩
  | rop h1 h2 h3 h4 h5 t=>exact ⟨.rop h1 h2 h3 h4 h5 .nil,t⟩
  | ptr h1 t=>exact ⟨.ptr h1 .nil,t⟩
  | row h1 h2 h3 t=>exact ⟨.row h1 h2 h3 .nil,t⟩
  | map h1 t=>exact ⟨.map h1 .nil,t⟩
  | fn h1 h2 t=>exact ⟨.fn h1 h2 .nil,t⟩
  | yield h1 t=>exact ⟨.yield h1 .nil,t⟩
  | lenv t=>exact ⟨.lenv .nil,t⟩
theorem VL.nil_left {vs:List Value} (h:VL g w [] vs):vs=[]:=by cases h; rfl
theorem VL.cons_left {a:AV} {azz:List AV} {vs:List Value} (h:VL g w (a :: azz) vs):∃v vs',vs=v :: vs'∧V g w a v∧VL g w azz vs':=by
  cases vs with
  | nil=>cases h
  | cons v vs=>exact ⟨v,vs,rfl,h.inv⟩
theorem VL.length:∀{azz:List AV} {vs:List Value},VL g w azz vs→vs.length=azz.length
  | [],_,h=>by rw [h.nil_left]; rfl
  | _ :: azz,_,h=>by
    obtain ⟨v,vs',rfl,_,h2⟩:=h.cons_left
    simp [VL.length h2]
theorem VL.get:∀{azz:List AV} {vs:List Value} {i:Nat} {a:AV},VL g w azz vs→azz[i]? = some a→∃v,vs[i]? = some v∧V g w a v
  | [],_,_,_,_,hi=>by simp at hi
  | _ :: azz,_,i,a,h,hi=>by
    obtain ⟨v,vs',rfl,h1,h2⟩:=h.cons_left
    cases i with
    | zero=>simp at hi; subst hi; exact ⟨v,rfl,h1⟩
    | succ i =>
      obtain ⟨u,h3,h4⟩:=VL.get (i:=i) h2 (by simpa using hi)
      exact ⟨u,by simpa using h3,h4⟩
theorem VL.app:∀{azz bs:List AV} {vs us:List Value},VL g w azz vs→VL g w bs us→VL g w (azz ++ bs) (vs ++ us)
  | [],_,_,_,h,h'=>by rw [h.nil_left]; exact h'
  | _ :: azz,_,_,_,h,h'=>by
    obtain ⟨v,vs',rfl,h1,h2⟩:=h.cons_left
    exact VL.cons_of h1 (VL.app h2 h')
theorem VL.takes:∀{azz:List AV} {vs:List Value} (n:Nat),VL g w azz vs→VL g w (azz.take n) (vs.take n)
  | [],_,n,h=>by rw [h.nil_left]; simpa using VL.nil
  | _ :: azz,_,n,h=>by
    obtain ⟨v,vs',rfl,h1,h2⟩:=h.cons_left
    cases n with
    | zero=>simpa using VL.nil
    | succ n=>exact VL.cons_of h1 (VL.takes n h2)
theorem VL.drops:∀{azz:List AV} {vs:List Value} (n:Nat),VL g w azz vs→VL g w (azz.drop n) (vs.drop n)
  | [],_,n,h=>by rw [h.nil_left]; simpa using VL.nil
  | _ :: azz,_,n,h=>by
    obtain ⟨v,vs',rfl,h1,h2⟩:=h.cons_left
    cases n with
    | zero=>exact VL.cons_of h1 h2
    | succ n=>exact VL.drops n h2
theorem VL.of_get:∀{azz:List AV} {vs:List Value},vs.length=azz.length→(∀(i:Nat) (a:AV),azz[i]? = some a→∃v,vs[i]? = some v∧V g w a v)→VL g w azz vs
  | [],vs,hl,_=>by
    have:vs=[]:=List.length_eq_zero_iff.1 hl
    subst this; exact .nil
  | a :: azz,vs,hl,h=>by
    cases vs with
    | nil=>simp at hl
    | cons v vs =>
      obtain ⟨v',h1,h2⟩:=h 0 a rfl
      simp at h1; subst h1
      refine VL.cons_of h2 (VL.of_get (by simpa using hl) fun i a hi => ?_)
      obtain ⟨u,h3,h4⟩:=h (i + 1) a (by simpa using hi)
      exact ⟨u,by simpa using h3,h4⟩
structure Later (g:G) (w:World) (g':G) (w':World):Prop where
  sb:∀(n b:Nat),g.sb[n]? = some b→g'.sb[n]? = some b
  hb:∀(n b:Nat),g.hb[n]? = some b→g'.hb[n]? = some b
  cell:∀(b o:Nat) (v:Value),w.cell? ⟨b,o,none⟩=some v→¬g.wr b o→w'.cell? ⟨b,o,none⟩=some v∧¬g'.wr b o
theorem Later.ref (m:Later g w g' w') {r:Ref} {b:Nat} (h:g.ref r=some b):g'.ref r=some b:=by
  cases r with
  | stk n=>exact m.sb n b h
  | heap n=>exact m.hb n b h
theorem Lies.later (m:Later g w g' w') {a:Addr} {xs:List Value} (h:Lies g w a xs):Lies g' w' a xs :=
  fun i v hi=>m.cell _ _ _ (h i v hi).1 (h i v hi).2
theorem VL.later (m:Later g w g' w') {azz:List AV} {vs:List Value} (h:VL g w azz vs):VL g' w' azz vs:=by
  induction h with
  | nil=>exact .nil
  | sc x _ ih=>exact .sc x ih
  | undef v _ ih=>exact .undef v ih
  | agg h0 _ _ ih1 ih=>exact .agg h0 ih1 ih
  | tup _ _ ih1 ih=>exact .tup ih1 ih
  | list h1 h2 h3 h4 h5 h6 h7 _ h9 _ ih1 ih=>exact .list h1 h2 h3 h4 h5 h6 h7 ih1 (h9.later m) ih
  | lnil h1 _ ih=>exact .lnil h1 ih
  | rop h1 h2 h3 _ h5 _ ih1 ih=>exact .rop h1 h2 h3 ih1 (h5.later m) ih
  | ptr h1 _ ih=>exact .ptr (m.ref h1) ih
  | row h1 h2 h3 _ ih=>exact .row (m.ref h1) h2 h3 ih
  | map h1 _ ih=>exact .map (m.hb _ _ h1) ih
  | fn _ _ _ ih1 ih2 ih=>exact .fn ih1 ih2 ih
  | yield h1 _ ih=>exact .yield (m.hb _ _ h1) ih
  | lenv _ ih=>exact .lenv ih
theorem under_low1 (m:Nat):∀(a:AV),AV.under 0 a=true→AV.under m a=true:=by
  intro a
  refine AV.under.induct (motive_2:=fun a=>AV.under 0 a=true→AV.under m a=true) (motive_1:=fun l=>AV.under.go 0 l=true→AV.under.go m l=true) ?_ ?_ ?_ ?_ ?_ ?_ ?_ ?_ a
  all_goals (intros; simp_all [AV.under,AV.under.go])
theorem under_low (m:Nat):∀{l:List AV},AV.under.go 0 l=true→AV.under.go m l=true
  | [],_=>by simp [AV.under.go]
  | a :: l,h=>by
    simp only [AV.under.go,Bool.and_eq_true] at h ⊢
    exact ⟨under_low1 m a h.1,under_low m h.2⟩
theorem under_app {n:Nat}:∀{l l':List AV},AV.under.go n (l ++ l')=(AV.under.go n l && AV.under.go n l')
  | [],l'=>by simp [AV.under.go]
  | a :: l,l'=>by simp [AV.under.go,under_app (l:=l),Bool.and_assoc]
theorem under_cells1 {n:Nat} {a:AV} (h:AV.under n a=true):AV.under.go n a.cells=true:=by
  cases a with
  | agg cs=>simpa [AV.cells,AV.under] using h
  | _=>simp only [AV.cells,AV.under.go,h]; rfl
theorem under_cells {n:Nat}:∀{l:List AV},AV.under.go n l=true→AV.under.go n (l.flatMap AV.cells)=true
  | [],h=>by simpa using h
  | a :: l,h=>by
    simp only [AV.under.go,Bool.and_eq_true] at h
    rw [List.flatMap_cons,under_app,under_cells1 h.1,under_cells h.2]; rfl
theorem under_mem {n:Nat}:∀{l:List AV},AV.under.go n l=true↔∀a∈l,AV.under n a=true
  | []=>by simp [AV.under.go]
  | a :: l=>by simp [AV.under.go,under_mem (l:=l)]
theorem VL.cut {n:Nat} {azz:List AV} {vs:List Value} (h:VL g w azz vs) (hu:AV.under.go n azz=true):VL { g with sb:=g.sb.take n } w azz vs:=by
  have hh:∀(a:Addr) (xs:List Value),Lies g w a xs→Lies { g with sb:=g.sb.take n } w a xs:=fun _ _ h=>h
  induction h with
  | nil=>exact .nil
  | sc x _ ih=>exact .sc x (ih (by simpa [AV.under.go,AV.under] using hu))
  | undef v _ ih=>exact .undef v (ih (by simpa [AV.under.go,AV.under] using hu))
  | agg h0 _ _ ih1 ih=>simp [AV.under.go,AV.under] at hu; exact .agg h0 (ih1 hu.1) (ih hu.2)
  | tup _ _ ih1 ih=>simp [AV.under.go,AV.under] at hu; exact .tup (ih1 hu.1) (ih hu.2)
  | list h1 h2 h3 h4 h5 h6 h7 _ h9 _ ih1 ih =>
    simp [AV.under.go,AV.under] at hu
    exact .list h1 h2 h3 h4 h5 h6 h7 (ih1 (under_low _ (under_cells h7))) (hh _ _ h9) (ih hu)
  | lnil h1 _ ih=>exact .lnil h1 (ih (by simpa [AV.under.go,AV.under] using hu))
  | rop h1 h2 h3 _ h5 _ ih1 ih=>simp [AV.under.go,AV.under] at hu; exact .rop h1 h2 h3 (ih1 (under_low _ h3)) (hh _ _ h5) (ih hu)
  | @ptr r off b _ _ h1 _ ih =>
    cases r with
    | stk m=>simp [AV.under.go,AV.under] at hu; exact .ptr (by simp only [G.ref] at *; rw [List.getElem?_take]; simp [hu.1,h1]) (ih hu.2)
    | heap m=>simp [AV.under.go,AV.under] at hu; exact .ptr h1 (ih hu)
  | @row r off len cap c b _ _ h1 h2 h3 _ ih =>
    cases r with
    | stk m=>simp [AV.under.go,AV.under] at hu; exact .row (by simp only [G.ref] at *; rw [List.getElem?_take]; simp [hu.1,h1]) h2 h3 (ih hu.2)
    | heap m=>simp [AV.under.go,AV.under] at hu; exact .row h1 h2 h3 (ih hu)
  | map h1 _ ih=>exact .map h1 (ih (by simpa [AV.under.go,AV.under] using hu))
  | fn _ _ _ ih1 ih2 ih=>simp [AV.under.go,AV.under] at hu; exact .fn (ih1 hu.1.1) (ih2 hu.1.2) (ih hu.2)
  | yield h1 _ ih=>exact .yield h1 (ih (by simpa [AV.under.go,AV.under] using hu))
  | lenv _ ih=>exact .lenv (ih (by simpa [AV.under.go,AV.under] using hu))
end
end Go.AM
namespace Go.AM
open Go
inductive Pl where
  | slot (i:Nat)
  | stk (n i:Nat)
  | heap (n i:Nat)
  deriving DecidableEq
abbrev Own:=Pl→Nat→Nat→Prop
def Spare (w:World) (o:Nat→Nat→Prop) (a:Addr) (lo hi:Nat):Prop :=
  ∀j,lo≤j→j < hi→o a.block (a.off + j)∧(∃v,w.cell? ⟨a.block,a.off + j,none⟩=some v)∧w.frozen? ⟨a.block,a.off + j,none⟩=false
structure Uniq (g:G) (w:World) (o:Nat→Nat→Prop) (sz:Nat) (es:List AV) (v:Value) (a:Addr) (cap:Nat) (xs:List Value):Prop where
  val:v = .slice (some a) es.length cap
  le:es.length≤cap
  pos:0 < sz
  spot:a.spot=none
  elems:Elems sz es
  low:AV.under.go 0 es=true
  vl:VL g w (es.flatMap AV.cells) xs
  cell:∀(i:Nat) (v:Value),xs[i]? = some v→w.cell? ⟨a.block,a.off + i,none⟩=some v
  spare:Spare w o a 0 (cap * sz)
  off:a.off=0
  lt:a.block < w.heap.size
  all:∀x,g.wr a.block x→o a.block x
  nf:1 < sz→∀x,w.frozen? ⟨a.block,x,none⟩=false
def PV (g:G) (w:World) (o:Nat→Nat→Prop) (x:AV) (v:Value):Prop :=
  match x with
  | .list .own sz es=>V g w (.list .sh sz es) v∧∃a len cap,v = .slice (some a) len cap∧a.spot=none∧Spare w o a (len * sz) (cap * sz)
  | .list .uniq sz es=>∃a cap xs,Uniq g w o sz es v a cap xs
  | x=>V g w x v
structure OW (g:G) (ow:Own):Prop where
  wr:∀p b o,ow p b o→g.wr b o
  box:∀p b o,ow p b o→¬g.isBox b
  one:∀p q b o,ow p b o→ow q b o→p=q
structure BoxOK (g:G) (w:World) (o:Nat→Nat→Nat→Prop) (b:Nat) (cs:List AV) (xs:Array Value) (E:TypeId) (fz:Nat×Nat):Prop where
  obj:w.heap[b]? = some (.cells xs E fz)
  le:cs.length≤xs.size
  val:∀(i:Nat) (a:AV),cs[i]? = some a→∃v,xs[i]? = some v∧PV g w (o i) a v∧(a.isCell=true∨a.kept=true∧cs.length=1)
  wr:∀i,i < cs.length→g.wr b i∧¬(fz.1≤i∧i < fz.2)
structure EntryOK (g:G) (w:World) (e:Entry) (x:MapEntry):Prop where
  key:V g w e.key x.key
  val:V g w e.val x.val
  born:x.born=e.born
  low:AV.under 0 e.val=true
  plain:e.key.toV=some x.key
structure MapOK (g:G) (w:World) (b:Nat) (es:List Entry) (c:Nat) (xs:Array MapEntry):Prop where
  obj:w.heap[b]? = some (.map xs c)
  size:xs.size=es.length
  val:∀(i:Nat) (e:Entry),es[i]? = some e→∃x,xs[i]? = some x∧EntryOK g w e x
  wr:g.wr b 0
def loopState (l:LoopA):LoopState :=
  if l.ready then .ready else match l.pending with
    | none => .busy
    | some _ => .done
structure LoopOK (g:G) (w:World) (b:Nat) (l:LoopA) (r:Loop):Prop where
  obj:w.heap[b]? = some (.loop r)
  params:r.params.toList=l.params
  assign:r.assign=l.assign
  body:r.body=l.body
  state:r.state=loopState l
  pending:r.pending=l.pending.map Ex.toCode
  fr:VL g w l.fr r.tmps.toList
  low:AV.under.go 0 l.fr=true
  wr:g.wr b 0
structure IterOK (g:G) (w:World) (b:Nat) (i:IterA) (m:Option Nat):Prop where
  obj:w.heap[b]? = some (.mapIter m i.since i.seen.toArray i.stepped)
  nil:i.map=none→m=none
  map:∀h,i.map=some h→∃mb,m=some mb∧g.hb[h]? = some mb
  wr:g.wr b 0
structure SS (g:G) (w:World) (ow:Own) (σ:St):Prop where
  slen:g.sb.length=σ.stk.length
  hlen:g.hb.length=σ.heap.length
  nodup:(g.sb ++ g.hb).Nodup
  lt:∀b o,g.wr b o→b < w.heap.size
  stk:∀(n:Nat) (cs:List AV),σ.stk[n]? = some cs→AV.under.go n cs=true∧∃b xs E fz,g.sb[n]? = some b∧BoxOK g w (fun i=>ow (.stk n i)) b cs xs E fz
  heap:∀(n:Nat) (cs:List AV),σ.heap[n]? = some (.cells cs)→AV.under.go 0 cs=true∧∃b xs E fz,g.hb[n]? = some b∧BoxOK g w (fun i=>ow (.heap n i)) b cs xs E fz
  maps:∀(n:Nat) (es:List Entry) (c:Nat),σ.heap[n]? = some (.map es c)→∃b xs,g.hb[n]? = some b∧MapOK g w b es c xs
  loops:∀(n:Nat) (l:LoopA),σ.heap[n]? = some (.loop l)→∃b r,g.hb[n]? = some b∧LoopOK g w b l r
  iters:∀(n:Nat) (i:IterA),σ.heap[n]? = some (.iter i)→∃b m,g.hb[n]? = some b∧IterOK g w b i m
  dead:∀(n:Nat),σ.heap[n]? = some .dead→∃b,g.hb[n]? = some b∧b < w.heap.size
structure SF (g:G) (w:World) (ow:Own) (fr:Fr) (tm:Array Value):Prop where
  size:tm.size=fr.length
  val:∀(i:Nat) (a:AV),fr[i]? = some a→∃v,tm[i]? = some v∧PV g w (ow (.slot i)) a v
def May (g:G) (ow:Own) (b o:Nat):Prop:=(g.isBox b∧g.wr b o)∨∃p,ow p b o
def SameEnv (w w':World):Prop:=w'.os=w.os∧w'.tape=w.tape∧w'.output=w.output∧w.drawn≤w'.drawn
theorem SameEnv.r {w w':World} (h1:w'.os=w.os:=by rfl) (h2:w'.tape=w.tape:=by rfl) (h3:w'.output=w.output:=by rfl) (h4:w.drawn≤w'.drawn:=by first | exact Nat.le_refl _ | exact Nat.le_succ _):SameEnv w w':=⟨h1,h2,h3,h4⟩
structure Tr (M:Nat→Nat→Prop) (g:G) (w:World) (g':G) (w':World):Prop where
  size:w.heap.size≤w'.heap.size
  obj:∀b,b < w.heap.size→(∀o,¬M b o)→w'.heap[b]? = w.heap[b]?
  cell:∀b o,b < w.heap.size→¬M b o→w'.cell? ⟨b,o,none⟩=w.cell? ⟨b,o,none⟩
  live:∀b o v,w.cell? ⟨b,o,none⟩=some v→∃v',w'.cell? ⟨b,o,none⟩=some v'
  froz:∀b o,b < w.heap.size→w'.frozen? ⟨b,o,none⟩=w.frozen? ⟨b,o,none⟩
  wr:∀b o,g'.wr b o→g.wr b o∨w.heap.size≤b
  sb:∀(n b:Nat),g.sb[n]? = some b→g'.sb[n]? = some b
  hb:∀(n b:Nat),g.hb[n]? = some b→g'.hb[n]? = some b
  env:SameEnv w w'
section
variable {g g' g'':G} {w w' w'':World} {ow ow':Own} {M M':Nat→Nat→Prop}
theorem cell_lt {w:World} {b o:Nat} {v:Value} (h:w.cell? ⟨b,o,none⟩=some v):b < w.heap.size:=by
  unfold World.cell? at h
  rcases Nat.lt_or_ge b w.heap.size with h1 | h1
  · exact h1
  · simp [Array.getElem?_eq_none h1] at h
theorem Tr.refl (M:Nat→Nat→Prop) (g:G) (w:World):Tr M g w g w :=
  ⟨Nat.le_refl _,fun _ _ _=>rfl,fun _ _ _ _=>rfl,fun _ _ v h=>⟨v,h⟩,fun _ _ _=>rfl,fun _ _ h => .inl h,fun _ _ h=>h,fun _ _ h=>h,.r⟩
theorem Tr.weaken (t:Tr M g w g' w') (h:∀b o,M b o→M' b o):Tr M' g w g' w' :=
  ⟨t.size,fun b hb hm=>t.obj b hb fun o hM=>hm o (h _ _ hM),fun b o hb hm=>t.cell b o hb fun hM=>hm (h _ _ hM),t.live,t.froz,t.wr,t.sb,t.hb,t.env⟩
theorem Tr.trans (t:Tr M g w g' w') (t':Tr M' g' w' g'' w'') (h:∀b o,M' b o→M b o∨w.heap.size≤b):Tr M g w g'' w'' where
  size:=Nat.le_trans t.size t'.size
  obj b hb hm:=by
    rw [t'.obj b (Nat.lt_of_lt_of_le hb t.size) fun o hM=>(h b o hM).elim (hm o) fun h2=>by omega,t.obj b hb hm]
  cell b o hb hm:=by
    rw [t'.cell b o (Nat.lt_of_lt_of_le hb t.size) fun hM=>(h b o hM).elim hm fun h2=>by omega,t.cell b o hb hm]
  live b o v hv:=by obtain ⟨v',h1⟩:=t.live b o v hv; exact t'.live b o v' h1
  froz b o hb:=by rw [t'.froz b o (Nat.lt_of_lt_of_le hb t.size),t.froz b o hb]
  wr b o hw:=by
    rcases t'.wr b o hw with h1 | h1
    · exact t.wr b o h1
    · exact .inr (Nat.le_trans t.size h1)
  sb n b hb:=t'.sb n b (t.sb n b hb)
  hb n b hb:=t'.hb n b (t.hb n b hb)
  env:=⟨t'.env.1.trans t.env.1,t'.env.2.1.trans t.env.2.1,t'.env.2.2.1.trans t.env.2.2.1,Nat.le_trans t.env.2.2.2 t'.env.2.2.2⟩
theorem Tr.later (t:Tr M g w g' w') (h:∀b o,M b o→g.wr b o):Later g w g' w' where
  sb:=t.sb
  hb:=t.hb
  cell b o v hv hw:=by
    have hb:=cell_lt hv
    refine ⟨by rw [t.cell b o hb fun hM=>hw (h _ _ hM)]; exact hv,fun hw' => ?_⟩
    rcases t.wr b o hw' with h1 | h1
    · exact hw h1
    · omega
theorem Spare.later (t:Tr M g w g' w') {o:Nat→Nat→Prop} {a:Addr} {lo hi:Nat} (h:Spare w o a lo hi):Spare w' o a lo hi:=by
  intro j h1 h2
  obtain ⟨h3,⟨v,h4⟩,h5⟩:=h j h1 h2
  exact ⟨h3,t.live _ _ _ h4,by rw [t.froz _ _ (cell_lt h4)]; exact h5⟩
theorem Uniq.len {o:Nat→Nat→Prop} {sz:Nat} {es:List AV} {v:Value} {a:Addr} {cap:Nat} {xs:List Value} (h:Uniq g w o sz es v a cap xs):xs.length=es.length * sz:=by
  have h1:∀{l:List AV},(∀e∈l,e.cells.length=sz)→(l.flatMap AV.cells).length=l.length * sz:=by
    intro l
    induction l with
    | nil=>intro _; simp
    | cons e l ih =>
      intro he
      rw [List.flatMap_cons,List.length_append,ih fun e h=>he e (by simp [h]),he e (by simp),List.length_cons,Nat.add_mul,Nat.one_mul,Nat.add_comm]
  rw [h.vl.length,h1 fun e he=>(h.elems e he).1]
theorem PV.later (t:Tr M g w g' w') (hM:∀b o,M b o→g.wr b o) {o:Nat→Nat→Prop} (ho:∀b i,o b i→¬M b i) {x:AV} {v:Value} (h:PV g w o x v):PV g' w' o x v:=by
  have L:=t.later hM
  cases x with
  | list fl sz es =>
    cases fl with
    | own =>
      obtain ⟨h1,a,len,cap,h2,h30,h3⟩:=h
      exact ⟨VL.later L h1,a,len,cap,h2,h30,h3.later t⟩
    | uniq =>
      obtain ⟨a,cap,xs,u⟩:=h
      refine ⟨a,cap,xs,u.val,u.le,u.pos,u.spot,u.elems,u.low,u.vl.later L,fun i v hi => ?_,u.spare.later t,u.off,Nat.lt_of_lt_of_le u.lt t.size,fun x hx=>u.all x ((t.wr _ _ hx).resolve_right (by have:=u.lt; omega)),fun hs x=>by rw [t.froz _ _ u.lt]; exact u.nf hs x⟩
      have hc:=u.cell i v hi
      have hl:i < cap * sz:=Nat.lt_of_lt_of_le (List.getElem?_eq_some_iff.1 hi).1 (by rw [u.len]; exact Nat.mul_le_mul_right _ u.le)
      rw [t.cell _ _ (cell_lt hc) (by have:=(u.spare i (Nat.zero_le _) hl).1; exact ho _ _ this)]
      exact hc
    | sh=>exact VL.later L h
    | full=>exact VL.later L h
  | _=>exact VL.later L h
def AV.common:AV→Bool
  | .list .own _ _ | .list .uniq _ _=>false
  | _=>true
theorem PV.of {o:Nat→Nat→Prop} {x:AV} {v:Value} (h:V g w x v):PV g w o x v:=by
  cases x with
  | list fl sz es =>
    cases fl with
    | own=>cases h with | list h1=>simp at h1
    | uniq=>cases h with | list h1=>simp at h1
    | sh=>exact h
    | full=>exact h
  | _=>exact h
theorem PV.plain {o:Nat→Nat→Prop} {x:AV} {v:Value} (h:PV g w o x v) (hc:x.common=true):V g w x v:=by
  cases x with
  | list fl sz es=>cases fl <;> first | exact h | simp [AV.common] at hc
  | _=>exact h
theorem PV.move {o o':Nat→Nat→Prop} {x:AV} {v:Value} (h:PV g w o x v) (ho:∀b i,o b i→o' b i):PV g w o' x v:=by
  have hs:∀a lo hi,Spare w o a lo hi→Spare w o' a lo hi:=fun a lo hi h j h1 h2=>⟨ho _ _ (h j h1 h2).1,(h j h1 h2).2⟩
  cases x with
  | list fl sz es =>
    cases fl with
    | own=>obtain ⟨h1,a,len,cap,h2,h30,h3⟩:=h; exact ⟨h1,a,len,cap,h2,h30,hs _ _ _ h3⟩
    | uniq=>obtain ⟨a,cap,xs,u⟩:=h; exact ⟨a,cap,xs,{ u with spare:=hs _ _ _ u.spare,all:=fun x hx=>ho _ _ (u.all x hx) }⟩
    | sh=>exact h
    | full=>exact h
  | _=>exact h
end
end Go.AM
namespace Go.AM
open Go
section
variable {g g' g'':G} {w w' w'':World} {ow ow':Own} {M M':Nat→Nat→Prop} {σ σ':St}
abbrev Nought:Nat→Nat→Prop:=fun _ _=>False
theorem G.isBox_lt (s:SS g w ow σ) {b:Nat} (h:g.isBox b):b < w.heap.size:=by
  have hlt:∀{b:Nat} {o:Obj},w.heap[b]? = some o→b < w.heap.size:=fun h=>(Array.getElem?_eq_some_iff.1 h).1
  rcases h with h | h
  · obtain ⟨n,hn,rfl⟩:=List.getElem_of_mem h
    have hn':n < σ.stk.length:=s.slen▸hn
    obtain ⟨_,b,xs,E,fz,h1,h2⟩:=s.stk n _ (List.getElem?_eq_getElem hn')
    rw [List.getElem?_eq_getElem hn] at h1
    injection h1 with h1; rw [h1]; exact hlt h2.obj
  · obtain ⟨n,hn,rfl⟩:=List.getElem_of_mem h
    have hn':n < σ.heap.length:=s.hlen▸hn
    have hg:=List.getElem?_eq_getElem hn'
    cases ho:σ.heap[n] with
    | cells cs =>
      rw [ho] at hg
      obtain ⟨_,b,xs,E,fz,h1,h2⟩:=s.heap n _ hg
      rw [List.getElem?_eq_getElem hn] at h1
      injection h1 with h1; rw [h1]; exact hlt h2.obj
    | map es c =>
      rw [ho] at hg
      obtain ⟨b,xs,h1,h2⟩:=s.maps n es c hg
      rw [List.getElem?_eq_getElem hn] at h1
      injection h1 with h1; rw [h1]; exact hlt h2.obj
    | loop l =>
      rw [ho] at hg
      obtain ⟨b,r,h1,h2⟩:=s.loops n l hg
      rw [List.getElem?_eq_getElem hn] at h1
      injection h1 with h1; rw [h1]; exact hlt h2.obj
    | iter i =>
      rw [ho] at hg
      obtain ⟨b,r,h1,h2⟩:=s.iters n i hg
      rw [List.getElem?_eq_getElem hn] at h1
      injection h1 with h1; rw [h1]; exact hlt h2.obj
    | dead =>
      rw [ho] at hg
      obtain ⟨b,h1,h2⟩:=s.dead n hg
      rw [List.getElem?_eq_getElem hn] at h1
      injection h1 with h1; rw [h1]; exact h2
theorem Tr.lt (t:Tr M g w g' w') {b:Nat} (h:b < w.heap.size):b < w'.heap.size:=Nat.lt_of_lt_of_le h t.size
theorem BoxOK.still (t : Tr Nought g w g' w') {o o' : Nat → Nat → Nat → Prop} {b : Nat} {cs : List AV} {xs : Array Value} {E : TypeId} {fz : Nat × Nat} (h : BoxOK g w o b cs xs E fz)
    (ho:∀i b x,o i b x→o' i b x) (hw:∀o,g.wr b o→g'.wr b o):BoxOK g' w' o' b cs xs E fz where
  obj:=by
    have hb:b < w.heap.size:=(Array.getElem?_eq_some_iff.1 h.obj).1
    rw [t.obj b hb fun _ h=>h]; exact h.obj
  le:=h.le
  val i a hi:=by
    obtain ⟨v,h1,h2,h3⟩:=h.val i a hi
    exact ⟨v,h1,(h2.later t (fun _ _ h=>h.elim) (fun _ _ _ h=>h)).move (ho i),h3⟩
  wr i hi:=⟨hw _ (h.wr i hi).1,(h.wr i hi).2⟩
theorem EntryOK.later (L:Later g w g' w') {e:Entry} {x:MapEntry} (h:EntryOK g w e x):EntryOK g' w' e x :=
  ⟨h.key.later L,h.val.later L,h.born,h.low,h.plain⟩
theorem MapOK.still (t:Tr Nought g w g' w') {b:Nat} {es:List Entry} {c:Nat} {xs:Array MapEntry} (h:MapOK g w b es c xs) (hw:∀o,g.wr b o→g'.wr b o):MapOK g' w' b es c xs where
  obj:=by
    have hb:b < w.heap.size:=(Array.getElem?_eq_some_iff.1 h.obj).1
    rw [t.obj b hb fun _ h=>h]; exact h.obj
  size:=h.size
  val i e hi:=by
    obtain ⟨x,h1,h2⟩:=h.val i e hi
    exact ⟨x,h1,h2.later (t.later fun _ _ h=>h.elim)⟩
  wr:=hw _ h.wr
theorem LoopOK.still (t:Tr Nought g w g' w') {b:Nat} {l:LoopA} {r:Loop} (h:LoopOK g w b l r) (hw:∀o,g.wr b o→g'.wr b o):LoopOK g' w' b l r :=
  { h with
    obj:=by
      have hb:b < w.heap.size:=(Array.getElem?_eq_some_iff.1 h.obj).1
      rw [t.obj b hb fun _ h=>h]; exact h.obj
    fr:=h.fr.later (t.later fun _ _ h=>h.elim)
    wr:=hw _ h.wr }
theorem IterOK.still (t:Tr Nought g w g' w') {b:Nat} {i:IterA} {m:Option Nat} (h:IterOK g w b i m) (hw:∀o,g.wr b o→g'.wr b o):IterOK g' w' b i m where
  obj:=by
    have hb:b < w.heap.size:=(Array.getElem?_eq_some_iff.1 h.obj).1
    rw [t.obj b hb fun _ h=>h]; exact h.obj
  nil:=h.nil
  map k hk:=by
    obtain ⟨mb,h1,h2⟩:=h.map k hk
    exact ⟨mb,h1,t.hb _ _ h2⟩
  wr:=hw _ h.wr
theorem SS.still (s : SS g w ow σ) (t : Tr Nought g w g' w') (hlt : ∀ b o, g'.wr b o → b < w'.heap.size) (hs : g'.sb = g.sb) (hh : g'.hb = g.hb) (hw : ∀ b o, g.isBox b → g.wr b o → g'.wr b o)
    (ho:∀n i b x,ow (.stk n i) b x→ow' (.stk n i) b x) (ho':∀n i b x,ow (.heap n i) b x→ow' (.heap n i) b x):SS g' w' ow' σ where
  slen:=by rw [hs]; exact s.slen
  hlen:=by rw [hh]; exact s.hlen
  nodup:=by rw [hs,hh]; exact s.nodup
  lt:=hlt
  stk n cs hn:=by
    obtain ⟨h0,b,xs,E,fz,h1,h2⟩:=s.stk n cs hn
    exact ⟨h0,b,xs,E,fz,by rw [hs]; exact h1,h2.still t (ho n) fun o=>hw b o (.inl (List.mem_of_getElem? h1))⟩
  heap n cs hn:=by
    obtain ⟨h0,b,xs,E,fz,h1,h2⟩:=s.heap n cs hn
    exact ⟨h0,b,xs,E,fz,by rw [hh]; exact h1,h2.still t (ho' n) fun o=>hw b o (.inr (List.mem_of_getElem? h1))⟩
  maps n es c hn:=by
    obtain ⟨b,xs,h1,h2⟩:=s.maps n es c hn
    exact ⟨b,xs,by rw [hh]; exact h1,h2.still t fun o=>hw b o (.inr (List.mem_of_getElem? h1))⟩
  loops n l hn:=by
    obtain ⟨b,r,h1,h2⟩:=s.loops n l hn
    exact ⟨b,r,by rw [hh]; exact h1,h2.still t fun o=>hw b o (.inr (List.mem_of_getElem? h1))⟩
  iters n l hn:=by
    obtain ⟨b,r,h1,h2⟩:=s.iters n l hn
    exact ⟨b,r,by rw [hh]; exact h1,h2.still t fun o=>hw b o (.inr (List.mem_of_getElem? h1))⟩
  dead n hn:=by
    obtain ⟨b,h1,h2⟩:=s.dead n hn
    exact ⟨b,by rw [hh]; exact h1,t.lt h2⟩
theorem SF.later {fr:Fr} {tm:Array Value} (s:SF g w ow fr tm) (t:Tr M g w g' w') (hM:∀b o,M b o→g.wr b o) (hd:∀i b x,ow (.slot i) b x→¬M b x) (ho:∀i b x,ow (.slot i) b x→ow' (.slot i) b x):SF g' w' ow' fr tm where
  size:=s.size
  val i a hi:=by
    obtain ⟨v,h1,h2⟩:=s.val i a hi
    exact ⟨v,h1,(h2.later t hM (hd i)).move (ho i)⟩
theorem Tr.heap (h:w'.heap=w.heap) (he:SameEnv w w':=by exact .r):Tr M g w g w' where
  env:=he
  size:=by rw [h]; exact Nat.le_refl _
  obj b _ _:=by rw [h]
  cell b o _ _:=by unfold World.cell?; rw [h]
  live b o v hv:=⟨v,by unfold World.cell? at *; rw [h]; exact hv⟩
  froz b o _:=by unfold World.frozen?; rw [h]
  wr _ _ h := .inl h
  sb _ _ h:=h
  hb _ _ h:=h
theorem Tr.new {ob : Obj} (h : w'.heap = w.heap.push ob) {X : Nat → Prop} {sb hb : List Nat} (hsb : ∀ (n b : Nat), g.sb[n]? = some b → sb[n]? = some b) (hhb : ∀ (n b : Nat), g.hb[n]? = some b → hb[n]? = some b) (he : SameEnv w w' := by exact .r) :
    Tr M g w ⟨sb,hb,fun b o=>g.wr b o∨b=w.heap.size∧X o⟩ w' where
  env:=he
  size:=by rw [h]; simp
  obj b hb _:=by rw [h,Array.getElem?_push_lt hb,Array.getElem?_eq_getElem hb]
  cell b o hb _:=by unfold World.cell?; rw [h,Array.getElem?_push_lt hb,Array.getElem?_eq_getElem hb]
  live b o v hv:=by
    have hb:=cell_lt hv
    exact ⟨v,by unfold World.cell? at *; rw [h,Array.getElem?_push_lt hb]; rw [Array.getElem?_eq_getElem hb] at hv; exact hv⟩
  froz b o hb:=by unfold World.frozen?; rw [h,Array.getElem?_push_lt hb,Array.getElem?_eq_getElem hb]
  wr b o hw:=hw.imp id fun h=>by rw [h.1]; exact Nat.le_refl _
  sb:=hsb
  hb:=hhb
structure Rel (g:G) (w:World) (ow:Own) (fr:Fr) (tm:Array Value) (σ:St):Prop where
  ss:SS g w ow σ
  own:OW g ow
  sf:SF g w ow fr tm
structure Free (g:G) (ow:Own) (ro:Nat→Nat→Prop):Prop where
  wr:∀b o,ro b o→g.wr b o
  box:∀b o,ro b o→¬g.isBox b
  apart:∀p b o,ow p b o→¬ro b o
def Nobody:Nat→Nat→Prop:=fun _ _=>False
theorem Free.nobody (g:G) (ow:Own):Free g ow Nobody:=⟨fun _ _ h=>h.elim,fun _ _ h=>h.elim,fun _ _ _ _ h=>h⟩
def Own.set (ow:Own) (p:Pl) (o:Nat→Nat→Prop):Own:=fun q=>if q=p then o else ow q
theorem Own.set_same (ow:Own) (p:Pl) (o:Nat→Nat→Prop):ow.set p o p=o:=by simp [Own.set]
theorem Own.set_other (ow:Own) {p q:Pl} (o:Nat→Nat→Prop) (h:q≠p):ow.set p o q=ow q:=by simp [Own.set,h]
theorem OW.set (h:OW g ow) {p:Pl} {ro:Nat→Nat→Prop} (f:Free g ow ro):OW g (ow.set p ro) where
  wr q b o hq:=by
    by_cases e:q=p
    · rw [e,Own.set_same] at hq; exact f.wr _ _ hq
    · rw [Own.set_other _ _ e] at hq; exact h.wr _ _ _ hq
  box q b o hq:=by
    by_cases e:q=p
    · rw [e,Own.set_same] at hq; exact f.box _ _ hq
    · rw [Own.set_other _ _ e] at hq; exact h.box _ _ _ hq
  one q r b o hq hr:=by
    by_cases e:q=p <;> by_cases e':r=p
    · rw [e,e']
    · rw [e,Own.set_same] at hq; rw [Own.set_other _ _ e'] at hr; exact (f.apart _ _ _ hr hq).elim
    · rw [e',Own.set_same] at hr; rw [Own.set_other _ _ e] at hq; exact (f.apart _ _ _ hq hr).elim
    · rw [Own.set_other _ _ e] at hq; rw [Own.set_other _ _ e'] at hr; exact h.one _ _ _ _ hq hr
theorem OW.take (h:OW g ow) (p:Pl):Free g (ow.set p Nobody) (ow p) where
  wr b o hq:=h.wr _ _ _ hq
  box b o hq:=h.box _ _ _ hq
  apart q b o hq hp:=by
    by_cases e:q=p
    · rw [e,Own.set_same] at hq; exact hq
    · rw [Own.set_other _ _ e] at hq; exact e (h.one _ _ _ _ hq hp)
theorem SS.own (s:SS g w ow σ) (ho:∀n i b x,ow (.stk n i) b x→ow' (.stk n i) b x) (ho':∀n i b x,ow (.heap n i) b x→ow' (.heap n i) b x):SS g w ow' σ :=
  s.still (Tr.refl _ g w) s.lt rfl rfl (fun _ _ _ h=>h) ho ho'
def put (dst:Option Tmp) (v:Value) (tm:Array Value):Array Value :=
  match dst with
  | some d=>tm.setIfInBounds d v
  | none=>tm
theorem SF.set {fr:Fr} {tm:Array Value} (s:SF g w ow fr tm) {d:Nat} {x:AV} {v:Value} (h:PV g w (ow' (.slot d)) x v) (ho:∀i,i≠d→ow' (.slot i)=ow (.slot i)):SF g w ow' (fr.set d x) (tm.setIfInBounds d v) where
  size:=by simp [s.size]
  val i a hi:=by
    by_cases e:i=d
    · subst e
      have hl:i < fr.length:=by
        rcases Nat.lt_or_ge i fr.length with h1 | h1
        · exact h1
        · rw [List.getElem?_eq_none (by simpa using h1)] at hi; simp at hi
      rw [List.getElem?_set_self hl] at hi
      injection hi with hi; subst hi
      exact ⟨v,by rw [Array.getElem?_setIfInBounds_self_of_lt (by rw [s.size]; exact hl)],h⟩
    · rw [List.getElem?_set_ne (Ne.symm e)] at hi
      obtain ⟨u,h1,h2⟩:=s.val i a hi
      exact ⟨u,by rw [Array.getElem?_setIfInBounds_ne (Ne.symm e)]; exact h1,by rw [ho i e]; exact h2⟩
theorem Rel.put {fr : Fr} {tm : Array Value} (r : Rel g w ow fr tm σ) {dst : Option Tmp} {x : AV} {v : Value} {ro : Nat → Nat → Prop} (h : PV g w ro x v) (f : Free g ow ro) :
    ∃ow',Rel g w ow' (putA dst x fr) (AM.put dst v tm) σ∧(∀p b o,ow' p b o→ow p b o∨ro b o)∧(∀n i,ow' (.stk n i)=ow (.stk n i))∧(∀n i,ow' (.heap n i)=ow (.heap n i)):=by
  cases dst with
  | none=>exact ⟨ow,r,fun p b o h => .inl h,fun _ _=>rfl,fun _ _=>rfl⟩
  | some d =>
    refine ⟨ow.set (.slot d) ro,⟨?_,r.own.set f,?_⟩,?_,?_,?_⟩
    · exact r.ss.own (fun n i b x h=>by rw [Own.set_other _ _ (by simp)]; exact h) (fun n i b x h=>by rw [Own.set_other _ _ (by simp)]; exact h)
    · exact r.sf.set (by rw [Own.set_same]; exact h) fun i e=>Own.set_other _ _ (by simpa using e)
    · intro p b o h
      by_cases e:p = .slot d
      · rw [e,Own.set_same] at h; exact .inr h
      · rw [Own.set_other _ _ e] at h; exact .inl h
    · intro n i; exact Own.set_other _ _ (by simp)
    · intro n i; exact Own.set_other _ _ (by simp)
end
end Go.AM
namespace Go.AM
open Go
section
variable {g g' g'':G} {w w' w'':World} {ow ow':Own} {M M':Nat→Nat→Prop} {σ σ':St}
theorem Sc.toV_ofV {v:Value} {x:Sc} (h:Sc.ofV v=some x):x.toV=v:=by
  unfold Sc.ofV at h
  split at h <;> simp at h <;> subst h <;> rfl
theorem PV.left {o:Nat→Nat→Prop} {x:AV} {v:Value} (h:PV g w o x v):PV g w Nobody x.left v:=by
  cases x with
  | list fl sz es =>
    cases fl with
    | own=>exact h.1
    | uniq=>exact VL.undef v .nil
    | sh=>exact h
    | full=>exact h
  | _=>exact h
theorem PV.undef {o:Nat→Nat→Prop} (v:Value):PV g w o .undef v:=VL.undef v .nil
def ownOf (ow:Own):Operand→Nat→Nat→Prop
  | .tmp t=>ow (.slot t)
  | _=>Nobody
theorem SF.getD {fr:Fr} {tm:Array Value} (s:SF g w ow fr tm) (t:Nat):PV g w (ow (.slot t)) (fr.getD t .undef) (tm.getD t undef):=by
  rcases Nat.lt_or_ge t fr.length with h | h
  · obtain ⟨v,h1,h2⟩:=s.val t _ (List.getElem?_eq_getElem h)
    have h3:fr.getD t .undef=fr[t]:=by simp [List.getD,h]
    have h4:tm.getD t undef=v:=by simp [h1]
    rw [h3,h4]; exact h2
  · rw [show fr.getD t .undef = .undef by simp [List.getD,List.getElem?_eq_none h]]
    exact PV.undef _
theorem SF.opnd {fr:Fr} {a:Act} (s:SF g w ow fr a.tmps) (x:Operand):PV g w (ownOf ow x) (opnd fr x) (a.eval x):=by
  cases x with
  | tmp t=>exact s.getD t
  | const v =>
    simp only [AM.opnd,Act.eval,AV.ofV]
    cases h:Sc.ofV v with
    | none=>exact PV.undef _
    | some x=>rw [←Sc.toV_ofV h]; exact PV.of (.sc x .nil)
  | global n=>exact PV.undef _
  | func f=>exact PV.of (.fn .nil .nil .nil)
theorem opnd_const_common (fr:Fr) (x:Operand) (h:∀t,x≠.tmp t):(AM.opnd fr x).common=true:=by
  cases x with
  | tmp t=>exact (h t rfl).elim
  | const v=>simp only [AM.opnd,AV.ofV]; split <;> rfl
  | global n=>rfl
  | func f=>rfl
theorem Rel.take {fr : Fr} {a : Act} (r : Rel g w ow fr a.tmps σ) (t : Nat) :
    PV g w (ow (.slot t)) (fr.getD t .undef) (a.tmps.getD t undef)∧Rel g w (ow.set (.slot t) Nobody) (fr.set t (fr.getD t .undef).left) a.tmps σ∧Free g (ow.set (.slot t) Nobody) (ow (.slot t)):=by
  refine ⟨r.sf.getD t,⟨?_,r.own.set (Free.nobody _ _),?_⟩,r.own.take _⟩
  · exact r.ss.own (fun n i b x h=>by rw [Own.set_other _ _ (by simp)]; exact h) (fun n i b x h=>by rw [Own.set_other _ _ (by simp)]; exact h)
  · have h:=(r.sf.getD t).left
    refine ⟨by simp [r.sf.size],fun i x hi => ?_⟩
    by_cases e:i=t
    · subst e
      have hl:i < fr.length:=by
        rcases Nat.lt_or_ge i fr.length with h1 | h1
        · exact h1
        · rw [List.getElem?_eq_none (by simpa using h1)] at hi; simp at hi
      rw [List.getElem?_set_self hl] at hi
      injection hi with hi; subst hi
      obtain ⟨v,h1,_⟩:=r.sf.val i _ (List.getElem?_eq_getElem hl)
      refine ⟨v,h1,?_⟩
      rw [show a.tmps.getD i undef=v by simp [h1]] at h
      rw [Own.set_same]; exact h
    · rw [List.getElem?_set_ne (Ne.symm e)] at hi
      obtain ⟨u,h1,h2⟩:=r.sf.val i x hi
      exact ⟨u,h1,by rw [Own.set_other _ _ (by simpa using e)]; exact h2⟩
def Ref.pl (r:Ref) (i:Nat):Pl :=
  match r with
  | .stk n => .stk n i
  | .heap n => .heap n i
def Ref.level:Ref→Nat
  | .stk n=>n
  | .heap _=>0
theorem SS.box (s:SS g w ow σ) {r:Ref} {cs:List AV} (h:boxOf σ r=some cs):AV.under.go r.level cs=true∧∃b xs E fz,g.ref r=some b∧BoxOK g w (fun i=>ow (r.pl i)) b cs xs E fz:=by
  cases r with
  | stk n=>exact s.stk n cs h
  | heap n =>
    simp only [boxOf] at h
    split at h
    · rename_i cs' hn; injection h with h; subst h; exact s.heap n _ hn
    · cases h
theorem G.ref_isBox {r:Ref} {b:Nat} (h:g.ref r=some b):g.isBox b:=by
  cases r with
  | stk n=>exact .inl (List.mem_of_getElem? h)
  | heap n=>exact .inr (List.mem_of_getElem? h)
theorem nodup_ref {sb hb:List Nat} (h:(sb ++ hb).Nodup):(∀(i j b:Nat),sb[i]? = some b→sb[j]? = some b→i=j)∧(∀(i j b:Nat),hb[i]? = some b→hb[j]? = some b→i=j)∧(∀(i j b:Nat),sb[i]? = some b→hb[j]? = some b→False):=by
  obtain ⟨h1,h2,h3⟩:=List.nodup_append.1 h
  refine ⟨fun i j b hi hj => ?_,fun i j b hi hj => ?_,fun i j b hi hj=>h3 b (List.mem_of_getElem? hi) b (List.mem_of_getElem? hj) rfl⟩
  · exact (List.getElem?_inj (List.getElem?_eq_some_iff.1 hi).1 h1).1 (hi.trans hj.symm)
  · exact (List.getElem?_inj (List.getElem?_eq_some_iff.1 hi).1 h2).1 (hi.trans hj.symm)
theorem BoxOK.later (t : Tr M g w g' w') (hM : ∀ b o, M b o → g.wr b o) {o o' : Nat → Nat → Nat → Prop} {b : Nat} {cs : List AV} {xs : Array Value} {E : TypeId} {fz : Nat × Nat} (h : BoxOK g w o b cs xs E fz)
    (hb':∀o,¬M b o) (hd:∀i b x,o i b x→¬M b x) (ho:∀i b x,o i b x→o' i b x) (hw:∀o,g.wr b o→g'.wr b o):BoxOK g' w' o' b cs xs E fz where
  obj:=by
    have hb:b < w.heap.size:=(Array.getElem?_eq_some_iff.1 h.obj).1
    rw [t.obj b hb hb']; exact h.obj
  le:=h.le
  val i a hi:=by
    obtain ⟨v,h1,h2,h3⟩:=h.val i a hi
    exact ⟨v,h1,(h2.later t hM (hd i)).move (ho i),h3⟩
  wr i hi:=⟨hw _ (h.wr i hi).1,(h.wr i hi).2⟩
theorem MapOK.later (t:Tr M g w g' w') (hM:∀b o,M b o→g.wr b o) {b:Nat} {es:List Entry} {c:Nat} {xs:Array MapEntry} (h:MapOK g w b es c xs) (hb':∀o,¬M b o) (hw:∀o,g.wr b o→g'.wr b o):MapOK g' w' b es c xs where
  obj:=by
    have hb:b < w.heap.size:=(Array.getElem?_eq_some_iff.1 h.obj).1
    rw [t.obj b hb hb']; exact h.obj
  size:=h.size
  val i e hi:=by
    obtain ⟨x,h1,h2⟩:=h.val i e hi
    exact ⟨x,h1,h2.later (t.later hM)⟩
  wr:=hw _ h.wr
theorem LoopOK.later (t:Tr M g w g' w') (hM:∀b o,M b o→g.wr b o) {b:Nat} {l:LoopA} {r:Loop} (h:LoopOK g w b l r) (hb':∀o,¬M b o) (hw:∀o,g.wr b o→g'.wr b o):LoopOK g' w' b l r :=
  { h with
    obj:=by
      have hb:b < w.heap.size:=(Array.getElem?_eq_some_iff.1 h.obj).1
      rw [t.obj b hb hb']; exact h.obj
    fr:=h.fr.later (t.later hM)
    wr:=hw _ h.wr }
theorem IterOK.later (t:Tr M g w g' w') {b:Nat} {i:IterA} {m:Option Nat} (h:IterOK g w b i m) (hb':∀o,¬M b o) (hw:∀o,g.wr b o→g'.wr b o):IterOK g' w' b i m where
  obj:=by
    have hb:b < w.heap.size:=(Array.getElem?_eq_some_iff.1 h.obj).1
    rw [t.obj b hb hb']; exact h.obj
  nil:=h.nil
  map k hk:=by
    obtain ⟨mb,h1,h2⟩:=h.map k hk
    exact ⟨mb,h1,t.hb _ _ h2⟩
  wr:=hw _ h.wr
theorem SS.replace (s : SS g w ow σ) (hown : OW g ow) {b : Nat} (hbox : g.isBox b) (t : Tr M g w g' w') (hM : ∀ b' o, M b' o → b' = b ∧ g.wr b' o) (hlt : ∀ b o, g'.wr b o → b < w'.heap.size) (hsb : g'.sb = g.sb) (hhb : g'.hb = g.hb)
    (hw:∀b' o,b'≠b→g.isBox b'→g.wr b' o→g'.wr b' o)
    (hls:σ'.stk.length=σ.stk.length) (hlh:σ'.heap.length=σ.heap.length)
    (stk:∀(n:Nat) (cs:List AV),σ'.stk[n]? = some cs→g.sb[n]? = some b→AV.under.go n cs=true∧∃xs E fz,BoxOK g' w' (fun i=>ow' (.stk n i)) b cs xs E fz)
    (heap:∀(n:Nat) (cs:List AV),σ'.heap[n]? = some (.cells cs)→g.hb[n]? = some b→AV.under.go 0 cs=true∧∃xs E fz,BoxOK g' w' (fun i=>ow' (.heap n i)) b cs xs E fz)
    (maps:∀(n:Nat) (es:List Entry) (c:Nat),σ'.heap[n]? = some (.map es c)→g.hb[n]? = some b→∃xs,MapOK g' w' b es c xs)
    (loops:∀(n:Nat) (l:LoopA),σ'.heap[n]? = some (.loop l)→g.hb[n]? = some b→∃r,LoopOK g' w' b l r)
    (iters:∀(n:Nat) (l:IterA),σ'.heap[n]? = some (.iter l)→g.hb[n]? = some b→∃r,IterOK g' w' b l r)
    (stk':∀(n:Nat),g.sb[n]?≠some b→σ'.stk[n]? = σ.stk[n]?) (heap':∀(n:Nat),g.hb[n]?≠some b→σ'.heap[n]? = σ.heap[n]?)
    (ho:∀(n i b' x:Nat),g.sb[n]?≠some b→ow (.stk n i) b' x→ow' (.stk n i) b' x) (ho':∀(n i b' x:Nat),g.hb[n]?≠some b→ow (.heap n i) b' x→ow' (.heap n i) b' x):SS g' w' ow' σ' where
  slen:=by rw [hsb,hls]; exact s.slen
  hlen:=by rw [hhb,hlh]; exact s.hlen
  nodup:=by rw [hsb,hhb]; exact s.nodup
  lt:=hlt
  stk n cs hn:=by
    by_cases e:g.sb[n]? = some b
    · obtain ⟨h0,xs,E,fz,h1⟩:=stk n cs hn e
      exact ⟨h0,b,xs,E,fz,by rw [hsb]; exact e,h1⟩
    · rw [stk' n e] at hn
      obtain ⟨h0,b',xs,E,fz,h1,h2⟩:=s.stk n cs hn
      have hne:b'≠b:=fun h=>e (h▸h1)
      refine ⟨h0,b',xs,E,fz,by rw [hsb]; exact h1,h2.later t (fun _ _ h=>(hM _ _ h).2) (fun o h=>hne (hM _ _ h).1) (fun i b'' x h hMx => ?_) (fun i b'' x h=>ho n i b'' x e h) fun o=>hw b' o hne (.inl (List.mem_of_getElem? h1))⟩
      exact hown.box _ _ _ h ((hM _ _ hMx).1▸hbox)
  heap n cs hn:=by
    by_cases e:g.hb[n]? = some b
    · obtain ⟨h0,xs,E,fz,h1⟩:=heap n cs hn e
      exact ⟨h0,b,xs,E,fz,by rw [hhb]; exact e,h1⟩
    · rw [heap' n e] at hn
      obtain ⟨h0,b',xs,E,fz,h1,h2⟩:=s.heap n cs hn
      have hne:b'≠b:=fun h=>e (h▸h1)
      refine ⟨h0,b',xs,E,fz,by rw [hhb]; exact h1,h2.later t (fun _ _ h=>(hM _ _ h).2) (fun o h=>hne (hM _ _ h).1) (fun i b'' x h hMx => ?_) (fun i b'' x h=>ho' n i b'' x e h) fun o=>hw b' o hne (.inr (List.mem_of_getElem? h1))⟩
      exact hown.box _ _ _ h ((hM _ _ hMx).1▸hbox)
  maps n es c hn:=by
    by_cases e:g.hb[n]? = some b
    · obtain ⟨xs,h1⟩:=maps n es c hn e
      exact ⟨b,xs,by rw [hhb]; exact e,h1⟩
    · rw [heap' n e] at hn
      obtain ⟨b',xs,h1,h2⟩:=s.maps n es c hn
      have hne:b'≠b:=fun h=>e (h▸h1)
      exact ⟨b',xs,by rw [hhb]; exact h1,h2.later t (fun _ _ h=>(hM _ _ h).2) (fun o h=>hne (hM _ _ h).1) fun o=>hw b' o hne (.inr (List.mem_of_getElem? h1))⟩
  loops n l hn:=by
    by_cases e:g.hb[n]? = some b
    · obtain ⟨r,h1⟩:=loops n l hn e
      exact ⟨b,r,by rw [hhb]; exact e,h1⟩
    · rw [heap' n e] at hn
      obtain ⟨b',r,h1,h2⟩:=s.loops n l hn
      have hne:b'≠b:=fun h=>e (h▸h1)
      exact ⟨b',r,by rw [hhb]; exact h1,h2.later t (fun _ _ h=>(hM _ _ h).2) (fun o h=>hne (hM _ _ h).1) fun o=>hw b' o hne (.inr (List.mem_of_getElem? h1))⟩
  iters n l hn:=by
    by_cases e:g.hb[n]? = some b
    · obtain ⟨r,h1⟩:=iters n l hn e
      exact ⟨b,r,by rw [hhb]; exact e,h1⟩
    · rw [heap' n e] at hn
      obtain ⟨b',r,h1,h2⟩:=s.iters n l hn
      have hne:b'≠b:=fun h=>e (h▸h1)
      exact ⟨b',r,by rw [hhb]; exact h1,h2.later t (fun o h=>hne (hM _ _ h).1) fun o=>hw b' o hne (.inr (List.mem_of_getElem? h1))⟩
  dead n hn:=by
    by_cases e:g.hb[n]? = some b
    · exact ⟨b,by rw [hhb]; exact e,t.lt (G.isBox_lt s hbox)⟩
    · rw [heap' n e] at hn
      obtain ⟨b',h1,h2⟩:=s.dead n hn
      exact ⟨b',by rw [hhb]; exact h1,t.lt h2⟩
theorem SS.setBox (s : SS g w ow σ) (hown : OW g ow) {r : Ref} {b : Nat} {cs cs' : List AV} {xs' : Array Value} {E' : TypeId} {fz' : Nat × Nat} (hcs : boxOf σ r = some cs) (hr : g.ref r = some b) (t : Tr M g w g' w') (hM : ∀ b' o, M b' o → b' = b ∧ g.wr b' o) (hlt : ∀ b o, g'.wr b o → b < w'.heap.size) (hsb : g'.sb = g.sb) (hhb : g'.hb = g.hb)
    (hw:∀b' o,b'≠b→g.isBox b'→g.wr b' o→g'.wr b' o) (hu:AV.under.go r.level cs'=true)
    (hnew:BoxOK g' w' (fun i=>ow' (r.pl i)) b cs' xs' E' fz')
    (ho:∀p b' x,(∀i,p≠r.pl i)→(∀i,p≠.slot i)→ow p b' x→ow' p b' x):SS g' w' ow' (setBox σ r cs'):=by
  obtain ⟨n1,n2,n3⟩:=nodup_ref s.nodup
  cases r with
  | stk m =>
    simp only [G.ref] at hr
    refine s.replace hown (.inl (List.mem_of_getElem? hr)) t hM hlt hsb hhb hw (by simp [AM.setBox]) (by simp [AM.setBox]) ?_ ?_ ?_ ?_ ?_ ?_ ?_ ?_ ?_
    · intro n c hn hb
      obtain rfl:=n1 _ _ _ hb hr
      have hl:n < σ.stk.length:=by rw [←s.slen]; exact (List.getElem?_eq_some_iff.1 hr).1
      simp only [AM.setBox] at hn
      rw [List.getElem?_set_self hl] at hn
      injection hn with hn; subst hn
      exact ⟨hu,_,_,_,hnew⟩
    · intro n c _ hb; exact (n3 _ _ _ hr hb).elim
    · intro n es c _ hb; exact (n3 _ _ _ hr hb).elim
    · intro n l _ hb; exact (n3 _ _ _ hr hb).elim
    · intro n l _ hb; exact (n3 _ _ _ hr hb).elim
    · intro n hne
      have e:m≠n:=fun e=>hne (e▸hr)
      simp only [AM.setBox]; rw [List.getElem?_set_ne e]
    · intro n _; rfl
    · intro n i b' x hne h
      refine ho _ _ _ (fun j => ?_) (fun j=>by simp) h
      simp only [Ref.pl,ne_eq,Pl.stk.injEq,not_and]
      intro e; exact (hne (e▸hr)).elim
    · intro n i b' x _ h
      exact ho _ _ _ (fun j=>by simp [Ref.pl]) (fun j=>by simp) h
  | heap m =>
    simp only [G.ref] at hr
    refine s.replace hown (.inr (List.mem_of_getElem? hr)) t hM hlt hsb hhb hw (by simp [AM.setBox]) (by simp [AM.setBox]) ?_ ?_ ?_ ?_ ?_ ?_ ?_ ?_ ?_
    · intro n c _ hb; exact (n3 _ _ _ hb hr).elim
    · intro n c hn hb
      obtain rfl:=n2 _ _ _ hb hr
      have hl:n < σ.heap.length:=by rw [←s.hlen]; exact (List.getElem?_eq_some_iff.1 hr).1
      simp only [AM.setBox] at hn
      rw [List.getElem?_set_self hl] at hn
      simp at hn; subst hn
      exact ⟨hu,_,_,_,hnew⟩
    · intro n es c hn hb
      obtain rfl:=n2 _ _ _ hb hr
      have hl:n < σ.heap.length:=by rw [←s.hlen]; exact (List.getElem?_eq_some_iff.1 hr).1
      simp only [AM.setBox] at hn
      rw [List.getElem?_set_self hl] at hn
      simp at hn
    · intro n l hn hb
      obtain rfl:=n2 _ _ _ hb hr
      have hl:n < σ.heap.length:=by rw [←s.hlen]; exact (List.getElem?_eq_some_iff.1 hr).1
      simp only [AM.setBox] at hn
      rw [List.getElem?_set_self hl] at hn
      simp at hn
    · intro n l hn hb
      obtain rfl:=n2 _ _ _ hb hr
      have hl:n < σ.heap.length:=by rw [←s.hlen]; exact (List.getElem?_eq_some_iff.1 hr).1
      simp only [AM.setBox] at hn
      rw [List.getElem?_set_self hl] at hn
      simp at hn
    · intro n _; rfl
    · intro n hne
      have e:m≠n:=fun e=>hne (e▸hr)
      simp only [AM.setBox]; rw [List.getElem?_set_ne e]
    · intro n i b' x _ h
      exact ho _ _ _ (fun j=>by simp [Ref.pl]) (fun j=>by simp) h
    · intro n i b' x hne h
      refine ho _ _ _ (fun j => ?_) (fun j=>by simp) h
      simp only [Ref.pl,ne_eq,Pl.heap.injEq,not_and]
      intro e; exact (hne (e▸hr)).elim
end
end Go.AM
