import Derived.Orders
import Derived.Deep.AppendSrc
import Derived.Laws.NewBlocks
import Derived.Laws.IdiomCopy
import Derived.OrdersIn
import Derived.RangeFuncRecord
import Derived.RangeFuncIn
import Derived.RangeFuncLeaves
import Derived.Great.BuildSlice
/-! An abstract machine for the model's code: slices that nobody writes into are lists, memory is only boxes and maps. -/
namespace Go.AM
open Go

inductive Sc where
  | bool (b : Bool)
  | int (k : IntKind) (n : Int)
  | str (s : List UInt8)
  | nilS
  | nilP
  | nilM
  | nilF
  deriving DecidableEq

def Sc.toV : Sc → Value
  | .bool b => .bool b
  | .int k n => .int k n
  | .str s => .string ⟨s.toArray⟩
  | .nilS => .slice none 0 0
  | .nilP => .pointer none
  | .nilM => .map none
  | .nilF => .nilFunc

def Sc.ofV : Value → Option Sc
  | .bool b => some (.bool b)
  | .int k n => some (.int k n)
  | .string s => some (.str s.data.toList)
  | .slice none 0 0 => some .nilS
  | .pointer none => some .nilP
  | .map none => some .nilM
  | .nilFunc => some .nilF
  | _ => none

/-- sh: a view that others may share · own: nobody else may write behind it · uniq: nobody else sees it · full: no room behind it -/
inductive Fl where
  | sh | own | uniq | full
  deriving DecidableEq

inductive Ref where
  | stk (n : Nat)
  | heap (n : Nat)
  deriving DecidableEq

inductive AV where
  | s (x : Sc)
  | undef
  | agg (cs : List AV)
  | tup (vs : List AV)
  | list (fl : Fl) (sz : Nat) (es : List AV)
  | rop (cs : List AV)
  | ptr (r : Ref) (off : Nat)
  | row (r : Ref) (off len cap : Nat)
  | map (h : Nat)
  | fn (fn : Fn) (first captured : List AV)
  | yield (h : Nat)
  deriving Inhabited

abbrev AV.bool (b : Bool) : AV := .s (.bool b)
abbrev AV.int (k : IntKind) (n : Int) : AV := .s (.int k n)
abbrev AV.i (n : Int) : AV := .s (.int .i64 n)
abbrev AV.str (l : List UInt8) : AV := .s (.str l)
abbrev AV.nilS : AV := .s .nilS
abbrev AV.nilP : AV := .s .nilP
abbrev AV.nilM : AV := .s .nilM

structure Entry where
  key : AV
  val : AV
  born : Nat
  deriving Inhabited

inductive Ex where
  | normal
  | exit (id : Nat)
  | ret
  deriving DecidableEq

def Ex.toCode : Ex → Code
  | .normal => .skip
  | .exit id => .exit id
  | .ret => .ret

/-- A range over a function that goes on. -/
structure LoopA where
  fid : FuncId
  fr : List AV
  params : List Tmp
  assign : Code
  body : Code
  ready : Bool
  pending : Option Ex
  deriving Inhabited

/-- A range over a map that goes on. -/
structure IterA where
  map : Option Nat
  since : Nat
  seen : List Nat
  stepped : Nat
  deriving Inhabited

inductive HObj where
  | cells (cs : List AV)
  | map (es : List Entry) (clock : Nat)
  | loop (l : LoopA)
  | iter (i : IterA)
  | dead
  deriving Inhabited

structure St where
  stk : List (List AV)
  heap : List HObj
  deriving Inhabited

abbrev Fr := List AV

def AV.cells : AV → List AV
  | .agg cs => cs
  | v => [v]

/-- A copy that owns nothing. -/
def AV.sh : AV → AV
  | .list .own sz es => .list .sh sz es
  | .list .uniq sz es => .list .sh sz es
  | v => v

/-- What may be looked at: a list that is one's own alone may not. -/
def AV.look : AV → AV
  | .list .own sz es => .list .sh sz es
  | .list .uniq _ _ => .undef
  | v => v

/-- What is left in a place from which all was taken. -/
def AV.left : AV → AV
  | .list .own sz es => .list .sh sz es
  | .list .uniq _ _ => .undef
  | v => v

/-- As it may lie in memory. -/
def AV.calm : AV → AV
  | .list .uniq sz es => .list .own sz es
  | v => v

/-- A constant of the code. -/
def AV.ofV (v : Value) : AV :=
  match Sc.ofV v with
  | some x => .s x
  | none => .undef

/-- May it be the content of one cell? -/
def AV.isCell : AV → Bool
  | .agg _ | .undef | .tup _ | .list .uniq _ _ => false
  | _ => true

/-- May it be laid into memory? -/
def AV.fit : AV → Bool
  | .undef | .tup _ => false
  | _ => true

/-- All references to stack boxes that are seen from here are below 'n'; lists bear none at all. -/
def AV.under (n : Nat) : AV → Bool
  | .agg cs => go cs
  | .tup vs => go vs
  | .ptr (.stk m) _ => decide (m < n)
  | .row (.stk m) _ _ _ => decide (m < n)
  | .fn _ a c => go a && go c
  | _ => true
  where go : List AV → Bool
  | [] => true
  | x :: xs => AV.under n x && go xs

abbrev underL (n : Nat) (l : List AV) : Bool := AV.under.go n l

def AV.beq : AV → AV → Bool
  | .s x, .s y => decide (x = y)
  | .undef, .undef => true
  | .agg a, .agg b => go a b
  | .tup a, .tup b => go a b
  | .list f n a, .list g m b => decide (f = g) && decide (n = m) && go a b
  | .rop a, .rop b => go a b
  | .ptr r o, .ptr r' o' => decide (r = r') && decide (o = o')
  | .row r o l c, .row r' o' l' c' => decide (r = r') && decide (o = o') && decide (l = l') && decide (c = c')
  | .map a, .map b => decide (a = b)
  | .yield a, .yield b => decide (a = b)
  | .fn f a c, .fn g b d => decide (f = g) && go a b && go c d
  | _, _ => false
  where go : List AV → List AV → Bool
  | [], [] => true
  | x :: xs, y :: ys => AV.beq x y && go xs ys
  | _, _ => false

def scalars : List AV → Option (List Value)
  | [] => some []
  | .s x :: r => (scalars r).map (x.toV :: ·)
  | _ :: _ => none

/-- What is plain: a scalar, or a struct or array of such. -/
def AV.toV : AV → Option Value
  | .s x => some x.toV
  | .agg cs => (scalars cs).map fun l => .agg l.toArray
  | _ => none

def Sc.ofVs : List Value → Option (List AV)
  | [] => some []
  | v :: r => match Sc.ofV v, Sc.ofVs r with
    | some x, some l => some (.s x :: l)
    | _, _ => none

def AV.ofPlain : Value → Option AV
  | .agg cs => (Sc.ofVs cs.toList).map .agg
  | v => (Sc.ofV v).map .s

/-- What is called. -/
inductive Tgt where
  | fn (f : FuncId)
  | yield (h : Nat)

structure Cfg where
  /-- does the box that this operation makes outlive its call? -/
  heap : FuncId → Nat → Bool
  /-- does this operation take what its source owns? -/
  take : FuncId → Nat → Bool
  /-- does this move turn a list that nobody else sees into a row that is written? and back? -/
  thaw : FuncId → Nat → Bool
  freeze : FuncId → Nat → Bool
  /-- the slots that live at the head of the loop in this block -/
  mask : FuncId → Nat → List Bool
  /-- an order for a region whose order is drawn -/
  plan : FuncId → Nat → List Nat
  prim : FuncId → Option (List AV → St → Option (AV × St))

/-- A pure run of a part of the model. -/
def val {α : Type} (P : Program) : Sem α → Option α
  | .pure a => some a
  | .program k => val P (k P)
  | _ => none

def opnd (fr : Fr) : Operand → AV
  | .tmp t => fr.getD t .undef
  | .const v => .ofV v
  | .func f => .fn (.func f) [] []
  | .global _ => .undef

/-- The operand, looked at. -/
def seen (fr : Fr) (x : Operand) : AV := (opnd fr x).look

/-- The operand's value, and the frame behind it. -/
def taken (tk : Bool) (fr : Fr) (x : Operand) : AV × Fr :=
  match x with
  | .tmp t => if tk then (fr.getD t .undef, fr.set t (fr.getD t .undef).left) else
    match fr.getD t .undef with
    | .list .uniq sz es => (.list .sh sz es, fr.set t (.list .own sz es))
    | v => (v.sh, fr)
  | x => (opnd fr x, fr)

def takenAll (fr : Fr) : List Operand → List AV × Fr
  | [] => ([], fr)
  | x :: xs =>
    let (v, fr) := taken true fr x
    let (vs, fr) := takenAll fr xs
    (v :: vs, fr)

def isAgg (P : Program) (t : TypeId) : Bool :=
  match P.underlying t with
  | some (.struct _) | some (.array _ _) => true
  | _ => false

def aggOf (P : Program) (t : TypeId) : Option Bool :=
  match P.underlying t with
  | some (.struct _) | some (.array _ _) => some true
  | some _ => some false
  | none => none

def zeroA (P : Program) (t : TypeId) : Option AV := ((P.info? t).bind (·.zero)).bind AV.ofPlain

def pack (P : Program) (t : TypeId) (cs : List AV) : AV :=
  if isAgg P t then .agg cs else cs.getD 0 .undef

def newBox (heap : Bool) (cs : List AV) (σ : St) : Option (Ref × St) :=
  if heap then
    if underL 0 cs then some (.heap σ.heap.length, { σ with heap := σ.heap ++ [.cells cs] }) else none
  else
    if underL σ.stk.length cs then some (.stk σ.stk.length, { σ with stk := σ.stk ++ [cs] }) else none

def boxOf (σ : St) : Ref → Option (List AV)
  | .stk n => σ.stk[n]?
  | .heap n => match σ.heap[n]? with
    | some (.cells cs) => some cs
    | _ => none

def setBox (σ : St) (r : Ref) (cs : List AV) : St :=
  match r with
  | .stk n => { σ with stk := σ.stk.set n cs }
  | .heap n => { σ with heap := σ.heap.set n (.cells cs) }

/-- cells from a place on -/
def readCells (σ : St) (p : AV) (n : Nat) : Option (List AV) :=
  match p with
  | .ptr r off => (boxOf σ r).bind fun cs => if off + n ≤ cs.length then some (((cs.drop off).take n).map AV.look) else none
  | .rop cs => if n ≤ cs.length then some (cs.take n) else none
  | _ => none

def splice (cs : List AV) (off : Nat) (vs : List AV) : List AV :=
  match vs with
  | [v] => cs.set off v
  | _ => cs.take off ++ vs ++ cs.drop (off + vs.length)

def mayHold (r : Ref) (vs : List AV) : Bool :=
  match r with
  | .stk m => underL m vs
  | .heap _ => underL 0 vs

def writeCells (σ : St) (r : Ref) (off : Nat) (vs : List AV) : Option St :=
  (boxOf σ r).bind fun cs =>
    if off + vs.length ≤ cs.length && mayHold r vs then some (setBox σ r (splice cs off vs)) else none

def load (P : Program) (tk : Bool) (t : TypeId) (p : AV) (σ : St) : Option (AV × St) :=
  match aggOf P t with
  | some true => if P.cellsOf t = 0 then none else (readCells σ p (P.cellsOf t)).map fun cs => (.agg cs, σ)
  | some false => match tk, p with
    | true, .ptr r off => (boxOf σ r).bind fun cs => match cs[off]? with
      | some v => some (v, setBox σ r (splice cs off [v.sh]))
      | none => none
    | _, _ => match readCells σ p 1 with
      | some [v] => some (v, σ)
      | _ => none
  | none => none

def store (P : Program) (t : TypeId) (p : AV) (v : AV) (σ : St) : Option St :=
  match p with
  | .ptr r off => if v.cells.length = P.cellsOf t ∧ P.cellsOf t ≠ 0 ∧ v.fit then writeCells σ r off v.cells else none
  | _ => none

def fieldOf (P : Program) (s : TypeId) (f : Nat) : Option Field :=
  match P.underlying s with
  | some (.struct fs) => fs[f]?
  | _ => none

def shift (p : AV) (o : Nat) : Option AV :=
  match p with
  | .ptr r off => some (.ptr r (off + o))
  | .rop cs => some (.rop (cs.drop o))
  | _ => none

def indexAddr (P : Program) (t : TypeId) (x ix : AV) : Option AV :=
  match ix with
  | .s (.int _ i) =>
    match P.underlying t, x with
    | some (.array n e), x => if 0 ≤ i ∧ i < n ∧ P.cellsOf e ≠ 0 then shift x (i.toNat * P.cellsOf e) else none
    | some (.slice e), .list fl sz es => if fl ≠ .uniq ∧ sz = P.cellsOf e ∧ sz ≠ 0 ∧ 0 ≤ i ∧ i < es.length then some (.rop (es.getD i.toNat .undef).cells) else none
    | some (.slice e), .row r off len _ => if 0 ≤ i ∧ i < len ∧ P.cellsOf e ≠ 0 then some (.ptr r (off + i.toNat * P.cellsOf e)) else none
    | _, _ => none
  | _ => none

def partOf (P : Program) (t : TypeId) (cs : List AV) (off : Nat) : Option AV :=
  match aggOf P t with
  | some true => if off + P.cellsOf t ≤ cs.length ∧ P.cellsOf t ≠ 0 then some (.agg ((cs.drop off).take (P.cellsOf t))) else none
  | some false => cs[off]?
  | none => none

def index (P : Program) (t : TypeId) (x ix : AV) : Option AV :=
  match ix with
  | .s (.int _ i) =>
    match P.underlying t, x with
    | some (.array n e), .agg cs => if 0 ≤ i ∧ i < n ∧ P.cellsOf e ≠ 0 then partOf P e cs (i.toNat * P.cellsOf e) else none
    | some .string, .s (.str l) => if 0 ≤ i ∧ i < l.length then some (.s (.int .u8 (l.getD i.toNat 0).toNat)) else none
    | _, _ => none
  | _ => none

/-- The bounds of a slice expression, within its length. -/
def bound (x : Option AV) (d : Nat) : Option Nat :=
  match x with
  | none => some d
  | some (.s (.int _ i)) => if 0 ≤ i then some i.toNat else none
  | _ => none

def sliceOf (P : Program) (t : TypeId) (x : AV) (lo hi mx : Option AV) : Option AV :=
  match P.underlying t, x with
  | some .string, .s (.str l) =>
    match mx, bound lo 0, bound hi l.length with
    | none, some a, some b => if a ≤ b ∧ b ≤ l.length then some (.str ((l.take b).drop a)) else none
    | _, _, _ => none
  | some (.slice e), .s .nilS =>
    match mx, bound lo 0, bound hi 0 with
    | none, some 0, some 0 => if P.cellsOf e ≠ 0 then some .nilS else none
    | _, _, _ => none
  | some (.slice e), .list fl sz es =>
    if fl = .uniq then none else
    match mx, bound lo 0, bound hi es.length with
    | none, some a, some b => if a ≤ b ∧ b ≤ es.length ∧ sz = P.cellsOf e then some (.list (if fl = .full ∧ b = es.length then .full else .sh) sz ((es.take b).drop a)) else none
    | some m, some a, some b => match hi, bound (some m) 0 with
      | some _, some m => if a ≤ b ∧ b = m ∧ m ≤ es.length ∧ sz = P.cellsOf e then some (.list (if fl = .sh ∧ es = [] then .sh else .full) sz ((es.take b).drop a)) else none
      | _, _ => none
    | _, _, _ => none
  | some (.slice e), .row r off len cap =>
    match mx, bound lo 0, bound hi len with
    | none, some a, some b => if a ≤ b ∧ b ≤ cap ∧ a < cap ∧ P.cellsOf e ≠ 0 then some (.row r (off + a * P.cellsOf e) (b - a) (cap - a)) else none
    | some m, some a, some b => match hi, bound (some m) 0 with
      | some _, some m => if a = b ∧ b = m ∧ m ≤ cap ∧ P.cellsOf e ≠ 0 then some (.list .full (P.cellsOf e) []) else none
      | _, _ => none
    | _, _, _ => none
  | some (.array n e), .ptr r off =>
    match mx, bound lo 0, bound hi n with
    | none, some a, some b => if a ≤ b ∧ b ≤ n ∧ a < n ∧ P.cellsOf e ≠ 0 then some (.row r (off + a * P.cellsOf e) (b - a) (n - a)) else none
    | _, _, _ => none
  | some (.array n e), .rop cs =>
    match mx, bound lo 0, bound hi n with
    | none, some a, some b => if a ≤ b ∧ b ≤ n ∧ a < n ∧ P.cellsOf e = 1 ∧ n ≤ cs.length then some (.list .sh 1 ((cs.take b).drop a)) else none
    | _, _, _ => none
  | _, _ => none

def lenOf (P : Program) (t : TypeId) (x : AV) (σ : St) : Option Nat :=
  match P.underlying t, x with
  | some .string, .s (.str l) => some l.length
  | some (.slice _), .s .nilS => some 0
  | some (.slice _), .list _ _ es => some es.length
  | some (.slice _), .row _ _ len _ => some len
  | some (.map _ _), .s .nilM => some 0
  | some (.map _ _), .map h => match σ.heap[h]? with
    | some (.map es _) => some es.length
    | _ => none
  | some (.array n _), .agg _ => some n
  | _, _ => none

def capOf (P : Program) (t : TypeId) (x : AV) : Option Nat :=
  match P.underlying t, x with
  | some (.slice _), .s .nilS => some 0
  | some (.slice _), .list .full _ es => some es.length
  | _, _ => none

/-- cells as elements -/
def group (P : Program) (e : TypeId) : Nat → List AV → List AV
  | 0, _ => []
  | n + 1, cs => pack P e (cs.take (P.cellsOf e)) :: group P e n (cs.drop (P.cellsOf e))

def bytesOf (P : Program) (e : TypeId) : Nat := ((P.info? e).map (·.bytes)).getD 0

/-- An element type of which slices may be made. -/
def elemOK (P : Program) (e : TypeId) : Bool :=
  match zeroA P e with
  | some z => z.cells.length == P.cellsOf e && P.cellsOf e != 0 && bytesOf P e != 0
  | none => false

/-- What is appended or copied: elements. -/
def elems (P : Program) (e : TypeId) (x : AV) (σ : St) : Option (List AV) :=
  match x with
  | .s .nilS => some []
  | .s (.str l) => if P.cellsOf e = 1 then some (l.map fun b => .s (.int .u8 b.toNat)) else none
  | .list _ sz es => if sz = P.cellsOf e then some es else none
  | .row r off len _ => if isAgg P e || P.cellsOf e == 1 then (readCells σ (.ptr r off) (len * P.cellsOf e)).map (group P e len) else none
  | _ => none

def AV.isStr : AV → Bool
  | .s (.str _) => true
  | _ => false

def AV.isSlice : AV → Bool
  | .s .nilS | .list .. | .row .. => true
  | _ => false

/-- Is the type that of the value: a string's or a slice's? -/
def srcOK (P : Program) (t : Option TypeId) (x : AV) : Bool :=
  match t with
  | none => false
  | some t => match P.underlying t with
    | some .string => x.isStr
    | some (.slice _) => x.isSlice
    | _ => false

def append (P : Program) (sT : TypeId) (xT : Option TypeId) (s x : AV) (σ : St) : Option (AV × St) :=
  match P.underlying sT with
  | some (.slice e) =>
    if !(srcOK P xT x && elemOK P e) then none else
    match elems P e x σ with
    | none => none
    | some items =>
      if !AV.under.go 0 items then none else
      match s with
      | .s .nilS =>
        if items.isEmpty then some (.nilS, σ) else
        if items.length * bytesOf P e ≤ 2 ^ 48 then some (.list .uniq (P.cellsOf e) items, σ) else none
      | .list fl sz es =>
        if sz ≠ P.cellsOf e then none else
        if items.isEmpty then some (.list fl sz es, σ) else
        match fl with
        | .sh => none
        | .full => if es.isEmpty then (if items.length * bytesOf P e ≤ 2 ^ 48 then some (.list .uniq sz items, σ) else none)
          else if 2 * (es.length + items.length) * bytesOf P e ≤ 2 ^ 48 then some (.list .own sz (es ++ items), σ) else none
        | .own => if 2 * (es.length + items.length) * bytesOf P e ≤ 2 ^ 48 then some (.list .own sz (es ++ items), σ) else none
        | .uniq => if 2 * (es.length + items.length) * bytesOf P e ≤ 2 ^ 48 then some (.list .uniq sz (es ++ items), σ) else none
      | .row r off len cap =>
        if len + items.length ≤ cap ∧ items ≠ [] then
          (writeCells σ r (off + len * P.cellsOf e) (items.flatMap AV.cells)).map fun σ => (.row r off (len + items.length) cap, σ)
        else none
      | _ => none
  | _ => none

def copyTo (P : Program) (dT : TypeId) (xT : Option TypeId) (d x : AV) (σ : St) : Option (AV × St) :=
  match P.underlying dT with
  | some (.slice e) =>
    if !(srcOK P xT x && elemOK P e) then none else
    match d, elems P e x σ with
    | .row r off len _, some items =>
      let items := items.take len
      (writeCells σ r off (items.flatMap AV.cells)).map fun σ => (.i items.length, σ)
    | _, _ => none
  | _ => none

/-! ### Maps -/
/-- Are keys of this type told apart at sight? -/
def nowKind : TypeDesc → Bool
  | .int _ | .string | .bool => true
  | _ => false

def keyEq (P : Program) (kT : TypeId) (a b : AV) : Option Bool :=
  match a.toV, b.toV, P.underlying kT with
  | some x, some y, some d => if nowKind d then Instr.sameNow d x y else val P (Op.equal kT x y)
  | _, _, _ => none

def findA (P : Program) (kT : TypeId) (k : AV) : List Entry → Nat → Option (Option (Nat × Entry))
  | [], _ => some none
  | e :: es, i => match keyEq P kT k e.key with
    | some true => some (some (i, e))
    | some false => findA P kT k es (i + 1)
    | none => none

def keyMay (P : Program) (kT : TypeId) (k : AV) : Bool :=
  match k.toV with
  | some x => (val P (Instr.checkKey false 10000 kT x)).isSome && (val P (Instr.checkKey true 10000 kT x)).isSome
  | none => false

def mapOf (σ : St) (m : AV) : Option (List Entry × Nat) :=
  match m with
  | .s .nilM => some ([], 0)
  | .map h => match σ.heap[h]? with
    | some (.map es c) => some (es, c)
    | _ => none
  | _ => none

def lookup (P : Program) (t : TypeId) (m k : AV) (ok : Bool) (σ : St) : Option AV :=
  match P.underlying t with
  | some (.map kT eT) =>
    if !keyMay P kT k then none else
    match mapOf σ m with
    | none => none
    | some (es, _) => match findA P kT k es 0 with
      | some (some (_, e)) => some (if ok then .tup [e.val, .bool true] else e.val)
      | some none => (zeroA P eT).map fun z => if ok then .tup [z, .bool false] else z
      | none => none
  | _ => none

def setMap (σ : St) (h : Nat) (es : List Entry) (c : Nat) : St := { σ with heap := σ.heap.set h (.map es c) }

def update (P : Program) (t : TypeId) (m k v : AV) (σ : St) : Option St :=
  match P.underlying t with
  | some (.map kT _) =>
    if !keyMay P kT k || !AV.under 0 v then none else
    match m with
    | .map h => match mapOf σ (.map h) with
      | none => none
      | some (es, c) => match findA P kT k es 0 with
        | some (some (i, e)) => match e.key.toV, k.toV with
          | some old, some new => if Instr.sameBits 10000 old new then some (setMap σ h (es.set i { e with key := k, val := v }) c) else none
          | _, _ => none
        | some none => some (setMap σ h (es ++ [⟨k, v, c⟩]) (c + 1))
        | none => none
    | _ => none
  | _ => none

def deleteA (P : Program) (t : TypeId) (m k : AV) (σ : St) : Option St :=
  match P.underlying t with
  | some (.map kT _) =>
    if !keyMay P kT k then none else
    match m with
    | .s .nilM => some σ
    | .map h => match mapOf σ (.map h) with
      | none => none
      | some (es, c) => match findA P kT k es 0 with
        | some (some (i, _)) => some (setMap σ h (es.eraseIdx i) c)
        | some none => some (setMap σ h es c)
        | none => none
    | _ => none
  | _ => none

/-! ### Literals -/
def fillA (place : Nat → Option (Nat × Nat)) (cs : List AV) : List (Nat × AV) → Option (List AV)
  | [] => some cs
  | (i, v) :: rest => match place i with
    | none => none
    | some (off, size) => if v.cells.length ≠ size ∨ off + size > cs.length ∨ !v.fit then none else fillA place (cs.take off ++ v.cells ++ cs.drop (off + size)) rest

/-- Where a struct's fields lie, and how many cells they take. -/
def structPlaces (P : Program) (t : TypeId) : Option (List (Nat × Nat)) :=
  match P.underlying t with
  | some (.struct fields) => fields.toList.mapM fun f => (P.info? f.type).map fun i => (f.offset, i.size)
  | _ => none

def arrayCells (P : Program) (t : TypeId) : Option Nat :=
  match P.underlying t with
  | some (.array _ e) => (P.info? e).map (·.size)
  | _ => none

def build (P : Program) (t : TypeId) (parts : List (Nat × AV)) : Option AV :=
  match zeroA P t with
  | none => none
  | some z => match structPlaces P t with
    | some places => (fillA (fun i => places[i]?) z.cells parts).map .agg
    | none => match arrayCells P t with
      | some n => (fillA (fun i => some (i * n, n)) z.cells parts).map .agg
      | none => none

def fillE (n : Nat) (es : List AV) : List (Nat × AV) → Option (List AV)
  | [] => some es
  | (i, v) :: rest => if v.cells.length = n ∧ i < es.length ∧ AV.under 0 v ∧ v.fit then fillE n (es.set i v) rest else none

def buildSlice (P : Program) (t : TypeId) (len : Nat) (parts : List (Nat × AV)) : Option AV :=
  match P.underlying t with
  | some (.slice e) =>
    if len = 0 then (if elemOK P e ∧ parts.isEmpty then some (.list .full (P.cellsOf e) []) else none) else
    if !elemOK P e ∨ len * P.cellsOf e > 2 ^ 24 then none else
    match zeroA P e with
    | some z => (fillE (P.cellsOf e) (List.replicate len z) parts).map (.list .full (P.cellsOf e))
    | none => none
  | _ => none

def makeSlice (P : Program) (asList heap : Bool) (t : TypeId) (len cap : AV) (σ : St) : Option (AV × St) :=
  match P.underlying t, len, cap with
  | some (.slice e), .s (.int _ l), .s (.int _ c) =>
    if 0 ≤ l ∧ l ≤ c ∧ c ≤ 2 ^ 32 ∧ bytesOf P e * c ≤ 2 ^ 47 ∧ elemOK P e then
      match zeroA P e with
      | some z =>
        if asList then some (.list .uniq (P.cellsOf e) (List.replicate l.toNat z), σ)
        else (newBox heap (List.replicate c.toNat z.cells).flatten σ).map fun (r, σ) => (.row r 0 l.toNat c.toNat, σ)
      | none => none
    else none
  | _, _, _ => none

/-! ### Operators -/
/-- What leads into memory, and what is nil: 0 pointers, 1 slices, 2 maps, 3 functions. -/
def AV.refKind : AV → Option Nat
  | .ptr .. | .rop _ => some 0
  | .list .sh _ [] => none
  | .list .. | .row .. => some 1
  | .map _ => some 2
  | .fn .. => some 3
  | _ => none

def AV.nilKind : AV → Option Nat
  | .s .nilP => some 0
  | .s .nilS => some 1
  | .s .nilM => some 2
  | .s .nilF => some 3
  | _ => none

def typeKind (P : Program) (t : TypeId) : Option Nat :=
  match P.underlying t with
  | some (.pointer _) => some 0
  | some (.slice _) => some 1
  | some (.map ..) => some 2
  | some (.func ..) => some 3
  | _ => none

/-- Is one nil, and the other is not? -/
def oneNil (P : Program) (t : TypeId) (x y : AV) : Bool :=
  match typeKind P t with
  | some k => (x.refKind == some k && y.nilKind == some k) || (x.nilKind == some k && y.refKind == some k)
  | none => false

def binOp (P : Program) (op : BinOp) (t : TypeId) (xo yo : Operand) (x y : AV) : Option AV :=
  match x.toV, y.toV with
  | some a, some b => (val P (do eqGuard op t xo yo a b; Go.binOp op t a b)).bind AV.ofPlain
  | _, _ =>
    if oneNil P t x y then match op with
      | .eql => some (.bool false)
      | .neq => some (.bool true)
      | _ => none
    else none

def unOp (P : Program) (op : UnOp) (x : AV) : Option AV :=
  match x with
  | .s x => (val P (Op.unary op x.toV)).bind AV.ofPlain
  | _ => none

def bytesIn : List AV → Option (List UInt8)
  | [] => some []
  | .s (.int .u8 n) :: r => (bytesIn r).map (UInt8.ofNat n.toNat :: ·)
  | _ => none

def convert (P : Program) (src dst : TypeId) (x : AV) (σ : St) : Option AV :=
  match P.underlying src, P.underlying dst, x with
  | some _, some (.int k), .s (.int _ n) => some (.s (.int k (k.wrap n)))
  | some _, some .string, .s (.str l) => some (.str l)
  | some .string, some (.slice e), .s (.str l) => match P.underlying e with
    | some (.int .u8) => if l.length < 2 ^ 46 ∧ elemOK P e ∧ P.cellsOf e = 1 then some (.list .uniq 1 (l.map fun b => .s (.int .u8 b.toNat))) else none
    | _ => none
  | some (.slice e), some .string, x => match P.underlying e with
    | some (.int .u8) => if x.isSlice && P.cellsOf e == 1 then ((elems P e x σ).bind bytesIn).map .str else none
    | _ => none
  | _, _, _ => none

/-- A list that nobody else sees becomes a row. -/
def thaw (fr : Fr) (x : Operand) (σ : St) : Option (AV × Fr × St) :=
  match x with
  | .tmp t => match fr.getD t .undef with
    | .list .uniq _ es => if es.isEmpty then none else (newBox false (es.flatMap AV.cells) σ).map fun (r, σ) => (.row r 0 es.length es.length, fr.set t (.row r 0 es.length es.length), σ)
    | .s .nilS => some (.nilS, fr, σ)
    | _ => none
  | _ => none

/-- A row that is written no more becomes a list; its box is gone. -/
def freeze (P : Program) (t : TypeId) (v : AV) (σ : St) : Option (AV × St) :=
  match P.underlying t, v with
  | some (.slice e), .row (.stk n) 0 len _ =>
    (readCells σ (.ptr (.stk n) 0) (len * P.cellsOf e)).bind fun cs =>
      if underL 0 cs ∧ 0 < P.cellsOf e ∧ (isAgg P e || P.cellsOf e == 1) then some (.list .sh (P.cellsOf e) (group P e len cs), { σ with stk := σ.stk.set n [] }) else none
  | some (.slice _), .s .nilS => some (.nilS, σ)
  | _, _ => none

/-- The builtin 'clear' of a slice. -/
def clearA (P : Program) (t : TypeId) (v : AV) (σ : St) : Option St :=
  match P.underlying t, v with
  | some (.slice e), .row r off len _ => (zeroA P e).bind fun z => if elemOK P e then writeCells σ r off (List.replicate len z.cells).flatten else none
  | some (.slice _), .s .nilS => some σ
  | some (.slice _), .list _ _ [] => some σ
  | _, _ => none

def argVals (fr : Fr) (xs : List Operand) : List AV := xs.map (opnd fr)

/-- What an operation yields, the frame and the state behind it. -/
def evOp (C : Tgt → List AV → St → Option (AV × St)) (P : Program) (cfg : Cfg) (f : FuncId) (o : Oper) (fr : Fr) (σ : St) : Option (AV × Fr × St) :=
  let d := o.dst.getD 0
  let hp := cfg.heap f d
  let tk := cfg.take f d
  let pureA (v : Option AV) : Option (AV × Fr × St) := v.map fun v => (v, fr, σ)
  match o.op with
  | .move x => if cfg.thaw f d then thaw fr x σ else if cfg.freeze f d then (freeze P o.type (seen fr x) σ).map fun (v, σ) => (v, fr, σ)
    else let r := taken tk fr x; some (r.1, r.2, σ)
  | .assign x => if cfg.freeze f d then (freeze P o.type (seen fr x) σ).map fun (v, σ) => (v, fr, σ)
    else let r := taken true fr x; some (r.1, r.2, σ)
  | .pick c a b => match seen fr c with
    | .s (.bool c) => some ((if c then seen fr a else seen fr b), fr, σ)
    | _ => none
  | .alloc t => (zeroA P t).bind fun z => (newBox hp z.cells σ).map fun (r, σ) => (.ptr r 0, fr, σ)
  | .box _ x => let r := taken tk fr x; if !r.1.fit then none else (newBox hp r.1.calm.cells σ).map fun (q, σ) => (.ptr q 0, r.2, σ)
  | .build t parts => pureA (build P t (parts.toList.map fun (i, x) => (i, seen fr x)))
  | .buildSlice t n parts => pureA (buildSlice P t n (parts.toList.map fun (i, x) => (i, seen fr x)))
  | .load t x => (load P tk t (seen fr x) σ).map fun (v, σ) => (v, fr, σ)
  | .store t p x => let r := taken true fr x; (store P t (seen r.2 p) r.1.calm σ).map fun σ => (.undef, r.2, σ)
  | .nilCheck x => match seen fr x with
    | .ptr r o => some (.ptr r o, fr, σ)
    | .rop cs => some (.rop cs, fr, σ)
    | .map h => some (.map h, fr, σ)
    | .fn (.func g) a c => some (.fn (.func g) a c, fr, σ)
    | _ => none
  | .binOp op t x y _ => pureA (binOp P op t x y (seen fr x) (seen fr y))
  | .unOp op _ x => pureA (unOp P op (seen fr x))
  | .convert a b x => pureA (convert P a b (seen fr x) σ)
  | .makeFunc fn first captured => pureA (some (.fn fn (first.toList.map fun x => seen fr x) (captured.toList.map fun x => seen fr x)))
  | .makeMap t r => match r with
    | none => some (.map σ.heap.length, fr, { σ with heap := σ.heap ++ [.map [] 0] })
    | some x => match P.underlying t, seen fr x with
      | some (.map ..), .s (.int ..) => some (.map σ.heap.length, fr, { σ with heap := σ.heap ++ [.map [] 0] })
      | _, _ => none
  | .makeSlice t l c => (makeSlice P tk hp t (seen fr l) (seen fr c) σ).map fun (v, σ) => (v, fr, σ)
  | .slice t x lo hi mx => pureA (sliceOf P t (seen fr x) (lo.map (seen fr)) (hi.map (seen fr)) (mx.map (seen fr)))
  | .fieldAddr s x i => pureA ((fieldOf P s i).bind fun q => if P.cellsOf q.type = 0 then none else shift (seen fr x) q.offset)
  | .field s x i => pureA ((fieldOf P s i).bind fun q => match seen fr x with
    | .agg cs => partOf P q.type cs q.offset
    | _ => none)
  | .indexAddr t x ix => pureA (indexAddr P t (seen fr x) (seen fr ix))
  | .index t x ix => pureA (index P t (seen fr x) (seen fr ix))
  | .lookup t x ix ok => pureA (lookup P t (seen fr x) (seen fr ix) ok σ)
  | .mapUpdate t m k v | .insert t m k v => (update P t (seen fr m) (seen fr k) (seen fr v) σ).map fun σ => (.undef, fr, σ)
  | .extract x i => pureA (match seen fr x with
    | .tup vs => vs[i]?
    | _ => none)
  | .call c => match c.callee with
    | .builtin .len => pureA (match c.argTypes.toList, c.args.toList with
      | [t], [x] => (lenOf P t (seen fr x) σ).map fun (n : Nat) => AV.i n
      | _, _ => none)
    | .builtin .cap => pureA (match c.argTypes.toList, c.args.toList with
      | [t], [x] => (capOf P t (seen fr x)).map fun (n : Nat) => AV.i n
      | _, _ => none)
    | .builtin .append => match c.argTypes.toList, c.args.toList with
      | [t, tx], [s, x] => let r := taken true fr s; (append P t (some tx) r.1 (seen r.2 x) σ).map fun (v, σ) => (v, r.2, σ)
      | _, _ => none
    | .builtin .copy => match c.argTypes.toList, c.args.toList with
      | [t, tx], [d, x] => (copyTo P t (some tx) (seen fr d) (seen fr x) σ).map fun (v, σ) => (v, fr, σ)
      | _, _ => none
    | .builtin .delete => match c.argTypes.toList, c.args.toList with
      | t :: _, [m, k] => (deleteA P t (seen fr m) (seen fr k) σ).map fun σ => (.tup [], fr, σ)
      | _, _ => none
    | .builtin .clear => match c.argTypes.toList, c.args.toList with
      | [t], [x] => (clearA P t (seen fr x) σ).map fun σ => (.tup [], fr, σ)
      | _, _ => none
    | .builtin .min => match c.args.toList.map (seen fr) with
      | [.s (.int k a), .s (.int k' b)] => if k = k' then some (.s (.int k (if b < a then b else a)), fr, σ) else none
      | _ => none
    | .builtin .max => match c.args.toList.map (seen fr) with
      | [.s (.int k a), .s (.int k' b)] => if k = k' then some (.s (.int k (if b > a then b else a)), fr, σ) else none
      | _ => none
    | .value g => match seen fr g with
      | .fn (.func h) first captured =>
        let r := takenAll fr c.args.toList
        (C (.fn h) (first ++ r.1 ++ captured) σ).map fun (v, σ) => (v, r.2, σ)
      | .yield h =>
        let r := takenAll fr c.args.toList
        (C (.yield h) r.1 σ).map fun (v, σ) => (v, r.2, σ)
      | _ => none
    | _ => none
  | _ => none

/-- Operands that are looked at, and may be one's own alone: from now on they are not. -/
def settled : Op → List Operand
  | .build _ ps => ps.toList.map (·.2)
  | .buildSlice _ _ ps => ps.toList.map (·.2)
  | .mapUpdate _ _ _ v => [v]
  | .insert _ _ _ v => [v]
  | .convert _ _ x => [x]
  | .slice _ x _ _ _ => [x]
  | .indexAddr _ x _ => [x]
  | .call c => match c.callee with
    | .builtin .append => c.args.toList.drop 1
    | .builtin .len | .builtin .cap => c.args.toList
    | _ => []
  | _ => []

def settle (fr : Fr) : List Operand → Fr
  | [] => fr
  | x :: xs => settle (taken false fr x).2 xs

def putA (dst : Option Tmp) (v : AV) (fr : Fr) : Fr :=
  match dst with
  | some d => fr.set d v
  | none => fr

/-- What a guard saw: 'tup []' stands where an operation was passed by. -/
def guardA (ops : Array Oper) (fr : Fr) (o : Oper) : Option Bool :=
  match o.guard with
  | none => some true
  | some (j, want) => match (ops[j]?).bind (·.dst) with
    | some d => match fr[d]? with
      | some (.s (.bool b)) => some (b == want)
      | some (.tup []) => some false
      | _ => none
    | none => none

/-- One operation of a region. -/
def stepA (C : Tgt → List AV → St → Option (AV × St)) (P : Program) (cfg : Cfg) (f : FuncId) (ops : Array Oper) (i : Nat) (fr : Fr) (σ : St) : Option (Fr × St) :=
  match ops[i]? with
  | none => none
  | some o => match guardA ops fr o with
    | some true => match evOp C P cfg f o (settle fr (settled o.op)) σ with
      | some (v, fr, σ) => some (putA o.dst v fr, σ)
      | none => none
    | some false => some (putA o.dst (.tup []) fr, σ)
    | none => none

def evOps (C : Tgt → List AV → St → Option (AV × St)) (P : Program) (cfg : Cfg) (f : FuncId) (ops : Array Oper) : List Nat → Fr → St → Option (Fr × St)
  | [], fr, σ => some (fr, σ)
  | i :: rest, fr, σ => match stepA C P cfg f ops i fr σ with
    | some (fr, σ) => evOps C P cfg f ops rest fr σ
    | none => none

/-- An operation that only reads. -/
def readerOp (cfg : Cfg) (f : FuncId) (o : Oper) : Bool :=
  match o.op with
  | .move _ => !cfg.thaw f (o.dst.getD 0) && !cfg.freeze f (o.dst.getD 0) && !cfg.take f (o.dst.getD 0)
  | .load _ _ => !cfg.take f (o.dst.getD 0)
  | .pick .. | .nilCheck _ | .binOp .. | .unOp .. | .convert .. | .fieldAddr .. | .field .. | .indexAddr .. | .index .. | .lookup .. | .extract .. | .slice .. | .makeFunc .. | .build .. | .buildSlice .. => true
  | .call c => match c.callee with
    | .builtin .len | .builtin .cap => true
    | _ => false
  | _ => false

def AV.isUniq : AV → Bool
  | .list .uniq _ _ => true
  | _ => false

def calmAt (fr : Fr) : Operand → Bool
  | .tmp t => !(fr.getD t .undef).isUniq
  | _ => true

def readV (C : Tgt → List AV → St → Option (AV × St)) (P : Program) (cfg : Cfg) (f : FuncId) (ops : Array Oper) (i : Nat) (fr : Fr) (σ : St) : Option AV :=
  match ops[i]? with
  | none => none
  | some o => match guardA ops fr o with
    | some true => if readerOp cfg f o && o.op.operands.toList.all (calmAt fr) then (evOp C P cfg f o fr σ).map (·.1) else none
    | some false => some (.tup [])
    | none => none

/-- Does what it reads hang on memory that may be written? -/
def depA (ops : Array Oper) (i : Nat) (fr : Fr) : Bool :=
  match ops[i]? with
  | some o => match o.op with
    | .load _ x => match seen fr x with
      | .rop _ => false
      | _ => true
    | .lookup .. => true
    | .convert _ _ x => match seen fr x with
      | .row .. => true
      | _ => false
    | .call c => match c.args[0]? with
      | some x => match seen fr x with
        | .map _ => true
        | _ => false
      | none => true
    | _ => false
  | none => true

def dstOf (ops : Array Oper) (i : Nat) : Option Tmp := (ops[i]?).bind (·.dst)

def isReader (cfg : Cfg) (f : FuncId) (ops : Array Oper) (i : Nat) : Bool :=
  match ops[i]? with
  | some o => readerOp cfg f o
  | none => false

def sameV (x : Option AV) (v : AV) : Bool :=
  match x with
  | some u => u.beq v
  | none => false

/-- Is it sure that j comes behind k? -/
def hangsOn (ops : Array Oper) (j k : Nat) : Bool :=
  match ops[j]? with
  | some o => o.after.any fun e => Region.binds .any e && e.on == k
  | none => false

def evPlan (C : Tgt → List AV → St → Option (AV × St)) (P : Program) (cfg : Cfg) (f : FuncId) (ops : Array Oper) : List Nat → Fr → St → List (Nat × (St → Bool)) → Option (Fr × St)
  | [], fr, σ, _ => some (fr, σ)
  | i :: rest, fr, σ, chk =>
    if isReader cfg f ops i then
      match readV C P cfg f ops i fr σ with
      | some v => evPlan C P cfg f ops rest (putA (dstOf ops i) v fr) σ (if depA ops i fr then (i, fun σ' => sameV (readV C P cfg f ops i fr σ') v) :: chk else chk)
      | none => none
    else match stepA C P cfg f ops i fr σ with
      | some (fr', σ') => if (chk.filter fun c => !hangsOn ops i c.1).all (fun c => c.2 σ') then evPlan C P cfg f ops rest fr' σ' (chk.filter fun c => !hangsOn ops i c.1) else none
      | none => none

def maskOf : List Nat → Nat
  | [] => 0
  | t :: l => maskOf l ||| 2 ^ t

structure Info where
  edges : Nat
  looks : Nat
  dst : Option Nat
  rd : Bool

def infoOf (cfg : Cfg) (f : FuncId) (ops : Array Oper) (o : Oper) : Info :=
  { edges := maskOf ((o.after.toList.filter (Region.binds .any)).map (·.on)), looks := maskOf (o.looksAt ops), dst := o.dst, rd := readerOp cfg f o }

def Info.ready (I : Info) (i listed : Nat) : Bool := !listed.testBit i && (I.edges &&& listed == I.edges)

def Info.apart (x y : Info) : Bool :=
  (match x.dst with
   | some d => !y.looks.testBit d && y.dst != some d
   | none => true) &&
  (match y.dst with
   | some d => !x.looks.testBit d
   | none => true)

def allFrom (p : Info → Nat → Bool) : List Info → Nat → Bool
  | [], _ => true
  | I :: l, i => p I i && allFrom p l (i + 1)

def nth : List Info → Nat → Option Info
  | [], _ => none
  | I :: _, 0 => some I
  | _ :: l, n + 1 => nth l n

/-- May the region be run in that order? -/
def planFast (is : List Info) : List Nat → Nat → Bool
  | [], listed => allFrom (fun I i => !I.ready i listed) is 0
  | i :: rest, listed =>
    match nth is i with
    | none => false
    | some I => I.ready i listed &&
      (if I.rd then allFrom (fun J j => j == i || listed.testBit j || J.edges.testBit i || I.apart J) is 0
        else allFrom (fun J j => j == i || !J.ready j listed) is 0) &&
      planFast is rest (listed ||| 2 ^ i)

def plansIn (cfg : Cfg) (f : FuncId) : Code → Bool
  | .region id ops true => (cfg.plan f id).isEmpty || (decide ((cfg.plan f id).length ≤ ops.size) && planFast (ops.toList.map (infoOf cfg f ops)) (cfg.plan f id) 0)
  | .seq a b => plansIn cfg f a && plansIn cfg f b
  | .cond _ a b => plansIn cfg f a && plansIn cfg f b
  | .block _ b => plansIn cfg f b
  | .loop b => plansIn cfg f b
  | .rangeFunc _ _ a b => plansIn cfg f a && plansIn cfg f b
  | _ => true

def plansOK (P : Program) (cfg : Cfg) : Bool :=
  (List.range P.funcs.size).all fun f => match P.funcs[f]? with
    | some fn => match fn.body with
      | some c => plansIn cfg f c
      | none => true
    | none => true

def keep : List Bool → Fr → Fr
  | true :: m, x :: xs => x :: keep m xs
  | false :: m, _ :: xs => .undef :: keep m xs
  | _, xs => xs

def evLoop (body : Fr → St → Option (Ex × Fr × St)) (mask : List Bool) (n0 : Nat) : Nat → Fr → St → Option (Ex × Fr × St)
  | 0, _, _ => none
  | n + 1, fr, σ =>
    let fr := keep mask fr
    if underL n0 fr then
      match body fr { σ with stk := σ.stk.take n0 } with
      | some (.normal, fr, σ) => evLoop body mask n0 n fr σ
      | r => r
    else none

def hasBody (P : Program) (h : FuncId) : Bool :=
  match P.funcs[h]? with
  | some fn => fn.body.isSome
  | none => false

/-- What may be kept with a loop. -/
def lasting (v : AV) : AV := if AV.under 0 v.look then v.look else .undef

def evCode (C : Tgt → List AV → St → Option (AV × St)) (P : Program) (cfg : Cfg) (n : Nat) (rd : Bool) (f : FuncId) : Nat → Code → Fr → St → Option (Ex × Fr × St)
  | _, .skip, fr, σ => some (.normal, fr, σ)
  | _, .region _ ops false, fr, σ => (evOps C P cfg f ops (List.range ops.size) fr σ).map fun (fr, σ) => (.normal, fr, σ)
  | _, .region id ops true, fr, σ => if (cfg.plan f id).isEmpty then none else (evPlan C P cfg f ops (cfg.plan f id) fr σ []).map fun (fr, σ) => (.normal, fr, σ)
  | k, .seq a b, fr, σ => match evCode C P cfg n rd f k a fr σ with
    | some (.normal, fr, σ) => evCode C P cfg n rd f k b fr σ
    | r => r
  | k, .cond c a b, fr, σ => match opnd fr c with
    | .s (.bool true) => evCode C P cfg n rd f k a fr σ
    | .s (.bool false) => evCode C P cfg n rd f k b fr σ
    | _ => none
  | _, .block id b, fr, σ => match evCode C P cfg n rd f id b fr σ with
    | some (.exit id', fr, σ) => if id' = id then some (.normal, fr, σ) else some (.exit id', fr, σ)
    | r => r
  | k, .loop b, fr, σ => evLoop (evCode C P cfg n rd f k b) (cfg.mask f k) σ.stk.length n fr σ
  | _, .exit id, fr, σ => some (.exit id, fr, σ)
  | _, .ret, fr, σ => some (.ret, fr, σ)
  | _, .rangeFunc g ps a b, fr, σ =>
    if rd then none else
    match seen fr g with
    | .fn (.func h) first captured =>
      if !hasBody P h then none else
      match C (.fn h) (first ++ [.yield σ.heap.length] ++ captured) { σ with heap := σ.heap ++ [.loop { fid := f, fr := fr.map lasting, params := ps.toList, assign := a, body := b, ready := true, pending := none }] } with
      | some (_, σ') => match σ'.heap[σ.heap.length]? with
        | some (.loop l) => if l.ready || l.pending.isSome then some (l.pending.getD .normal, fr, { σ' with heap := σ'.heap.set σ.heap.length .dead }) else none
        | _ => none
      | none => none
    | _ => none
  | _, _, _, _ => none

def setAll : List Tmp → List AV → Fr → Fr
  | t :: ts, v :: vs, fr => setAll ts vs (fr.set t v)
  | _, _, fr => fr

def setLoop (σ : St) (h : Nat) (l : LoopA) : St := { σ with heap := σ.heap.set h (.loop l) }

def loopOf (σ : St) (h : Nat) : Option LoopA :=
  match σ.heap[h]? with
  | some (.loop l) => some l
  | _ => none

/-- A round of a range over a function. -/
def evRound (C : Tgt → List AV → St → Option (AV × St)) (P : Program) (cfg : Cfg) (n : Nat) (h : Nat) (args : List AV) (σ : St) : Option (AV × St) :=
  match loopOf σ h with
  | some l =>
    if args.length = l.params.length && plansIn cfg l.fid l.assign && plansIn cfg l.fid l.body then
      match evCode C P cfg n true l.fid 0 l.assign (setAll l.params (args.map AV.look) l.fr) σ with
      | some (.normal, fr, σ1) => match loopOf σ1 h with
        | some l1 => if l1.ready && l1.pending.isNone then
            match evCode C P cfg n true l.fid 0 l.body fr (setLoop σ1 h { l1 with ready := false }) with
            | some (e, _, σ') => match loopOf σ' h with
              | some l2 => some (.bool (e = .normal), { setLoop σ' h { l2 with ready := decide (e = .normal), pending := if e = .normal then none else some e } with stk := σ'.stk.take σ.stk.length })
              | none => none
            | none => none
          else none
        | none => none
      | _ => none
    else none
  | none => none


def resultA (P : Program) (fr : Fr) (σ : St) : ResultVar → Option AV
  | .tmp t => some (fr.getD t .undef)
  | .cell a t => (load P false t (fr.getD a .undef) σ).map (·.1)

def resultsA (P : Program) (fr : Fr) (σ : St) : List ResultVar → Option (List AV)
  | [] => some []
  | r :: rs => match resultA P fr σ r, resultsA P fr σ rs with
    | some v, some vs => some (v :: vs)
    | _, _ => none

def finish (P : Program) (base : Nat) (fn : Func) (fr : Fr) (σ : St) : Option (AV × St) :=
  match resultsA P fr σ fn.results.toList with
  | some [v] => if v.under base then some (v, { σ with stk := σ.stk.take base }) else none
  | some vs => if underL base vs then some (.tup (vs.map AV.look), { σ with stk := σ.stk.take base }) else none
  | none => none

def evBody (C : Tgt → List AV → St → Option (AV × St)) (P : Program) (cfg : Cfg) (n : Nat) (f : FuncId) (args : List AV) (σ : St) : Option (AV × St) :=
  match P.funcs[f]? with
  | some fn => match fn.body with
    | some c => match evCode C P cfg n false f 0 c (args ++ List.replicate (fn.ntmps - args.length) .undef) σ with
      | some (.normal, fr, σ') | some (.ret, fr, σ') => finish P σ.stk.length fn fr σ'
      | _ => none
    | none => none
  | none => none

def ev (P : Program) (cfg : Cfg) : Nat → Tgt → List AV → St → Option (AV × St)
  | 0, _, _, _ => none
  | n + 1, .fn f, args, σ => match cfg.prim f with
    | some p => p args σ
    | none => evBody (ev P cfg n) P cfg n f args σ
  | n + 1, .yield h, args, σ => evRound (ev P cfg n) P cfg n h args σ

end Go.AM
/-! What the abstract machine's values and state mean in a world. -/
namespace Go.AM
open Go
set_option linter.unusedVariables false

structure G where
  sb : List Nat
  hb : List Nat
  wr : Nat → Nat → Prop

def G.isBox (g : G) (b : Nat) : Prop := b ∈ g.sb ∨ b ∈ g.hb

def G.ref (g : G) : Ref → Option Nat
  | .stk n => g.sb[n]?
  | .heap n => g.hb[n]?

/-- The cells from an address on. -/
def Lies (g : G) (w : World) (a : Addr) (xs : List Value) : Prop :=
  ∀ i v, xs[i]? = some v → w.cell? ⟨a.block, a.off + i, none⟩ = some v ∧ ¬ g.wr a.block (a.off + i)

def Elems (sz : Nat) (es : List AV) : Prop := ∀ e ∈ es, e.cells.length = sz ∧ ∀ c ∈ e.cells, c.isCell = true

inductive VL (g : G) (w : World) : List AV → List Value → Prop
  | nil : VL g w [] []
  | sc (x : Sc) {as : List AV} {vs : List Value} : VL g w as vs → VL g w (.s x :: as) (x.toV :: vs)
  | undef (v : Value) {as : List AV} {vs : List Value} : VL g w as vs → VL g w (.undef :: as) (v :: vs)
  | agg {cs : List AV} {xs : Array Value} {as : List AV} {vs : List Value} : (∀ c ∈ cs, c.isCell = true) → VL g w cs xs.toList → VL g w as vs → VL g w (.agg cs :: as) (.agg xs :: vs)
  | tup {cs : List AV} {xs : Array Value} {as : List AV} {vs : List Value} : VL g w cs xs.toList → VL g w as vs → VL g w (.tup cs :: as) (.tuple xs :: vs)
  | list {fl : Fl} {sz : Nat} {es : List AV} {a : Addr} {len cap : Nat} {xs : List Value} {as : List AV} {vs : List Value} :
      (fl = .sh ∨ fl = .full ∧ cap = len) → len = es.length → len ≤ cap → 0 < sz → (es = [] ∨ a.spot = none) → Elems sz es → AV.under.go 0 es = true →
      VL g w (es.flatMap AV.cells) xs → Lies g w a xs → VL g w as vs → VL g w (.list fl sz es :: as) (.slice (some a) len cap :: vs)
  | lnil {sz : Nat} {as : List AV} {vs : List Value} : 0 < sz → VL g w as vs → VL g w (.list .sh sz [] :: as) (.slice none 0 0 :: vs)
  | rop {cs : List AV} {a : Addr} {xs : List Value} {as : List AV} {vs : List Value} :
      a.spot = none → (∀ c ∈ cs, c.isCell = true) → AV.under.go 0 cs = true → VL g w cs xs → Lies g w a xs → VL g w as vs → VL g w (.rop cs :: as) (.pointer (some a) :: vs)
  | ptr {r : Ref} {off b : Nat} {as : List AV} {vs : List Value} : g.ref r = some b → VL g w as vs → VL g w (.ptr r off :: as) (.pointer (some ⟨b, off, none⟩) :: vs)
  | row {r : Ref} {off len cap c b : Nat} {as : List AV} {vs : List Value} : g.ref r = some b → len ≤ cap → cap ≤ c → VL g w as vs → VL g w (.row r off len cap :: as) (.slice (some ⟨b, off, none⟩) len c :: vs)
  | map {h b : Nat} {as : List AV} {vs : List Value} : g.hb[h]? = some b → VL g w as vs → VL g w (.map h :: as) (.map (some b) :: vs)
  | yield {h b : Nat} {as : List AV} {vs : List Value} : g.hb[h]? = some b → VL g w as vs → VL g w (.yield h :: as) (.func (.yield b) #[] #[] :: vs)
  | fn {f : Fn} {a c : List AV} {xs ys : Array Value} {as : List AV} {vs : List Value} : VL g w a xs.toList → VL g w c ys.toList → VL g w as vs → VL g w (.fn f a c :: as) (.func f xs ys :: vs)

abbrev V (g : G) (w : World) (a : AV) (v : Value) : Prop := VL g w [a] [v]

section
variable {g g' : G} {w w' : World}

theorem VL.cons_of {a : AV} {v : Value} {as : List AV} {vs : List Value} (h : V g w a v) (t : VL g w as vs) : VL g w (a :: as) (v :: vs) := by
  cases h with
  | sc x _ => exact .sc x t
  | undef v _ => exact .undef v t
  | agg h0 h1 _ => exact .agg h0 h1 t
  | tup h1 _ => exact .tup h1 t
  | list h1 h2 h3 h4 h5 h6 h7 h8 h9 _ => exact .list h1 h2 h3 h4 h5 h6 h7 h8 h9 t
  | lnil h1 _ => exact .lnil h1 t
  | rop h1 h2 h3 h4 h5 _ => exact .rop h1 h2 h3 h4 h5 t
  | ptr h1 _ => exact .ptr h1 t
  | row h1 h2 h3 _ => exact .row h1 h2 h3 t
  | map h1 _ => exact .map h1 t
  | fn h1 h2 _ => exact .fn h1 h2 t
  | yield h1 _ => exact .yield h1 t

theorem VL.inv {a : AV} {v : Value} {as : List AV} {vs : List Value} (h : VL g w (a :: as) (v :: vs)) : V g w a v ∧ VL g w as vs := by
  cases h with
  | sc x t => exact ⟨.sc x .nil, t⟩
  | undef v t => exact ⟨.undef v .nil, t⟩
  | agg h0 h1 t => exact ⟨.agg h0 h1 .nil, t⟩
  | tup h1 t => exact ⟨.tup h1 .nil, t⟩
  | list h1 h2 h3 h4 h5 h6 h7 h8 h9 t => exact ⟨.list h1 h2 h3 h4 h5 h6 h7 h8 h9 .nil, t⟩
  | lnil h1 t => exact ⟨.lnil h1 .nil, t⟩
  | rop h1 h2 h3 h4 h5 t => exact ⟨.rop h1 h2 h3 h4 h5 .nil, t⟩
  | ptr h1 t => exact ⟨.ptr h1 .nil, t⟩
  | row h1 h2 h3 t => exact ⟨.row h1 h2 h3 .nil, t⟩
  | map h1 t => exact ⟨.map h1 .nil, t⟩
  | fn h1 h2 t => exact ⟨.fn h1 h2 .nil, t⟩
  | yield h1 t => exact ⟨.yield h1 .nil, t⟩

theorem VL.nil_left {vs : List Value} (h : VL g w [] vs) : vs = [] := by cases h; rfl

theorem VL.cons_left {a : AV} {as : List AV} {vs : List Value} (h : VL g w (a :: as) vs) : ∃ v vs', vs = v :: vs' ∧ V g w a v ∧ VL g w as vs' := by
  cases vs with
  | nil => cases h
  | cons v vs => exact ⟨v, vs, rfl, h.inv⟩

theorem VL.length : ∀ {as : List AV} {vs : List Value}, VL g w as vs → vs.length = as.length
  | [], _, h => by rw [h.nil_left]; rfl
  | _ :: as, _, h => by
    obtain ⟨v, vs', rfl, _, h2⟩ := h.cons_left
    simp [VL.length h2]

theorem VL.get : ∀ {as : List AV} {vs : List Value} {i : Nat} {a : AV}, VL g w as vs → as[i]? = some a → ∃ v, vs[i]? = some v ∧ V g w a v
  | [], _, _, _, _, hi => by simp at hi
  | _ :: as, _, i, a, h, hi => by
    obtain ⟨v, vs', rfl, h1, h2⟩ := h.cons_left
    cases i with
    | zero => simp at hi; subst hi; exact ⟨v, rfl, h1⟩
    | succ i =>
      obtain ⟨u, h3, h4⟩ := VL.get (i := i) h2 (by simpa using hi)
      exact ⟨u, by simpa using h3, h4⟩

theorem VL.app : ∀ {as bs : List AV} {vs us : List Value}, VL g w as vs → VL g w bs us → VL g w (as ++ bs) (vs ++ us)
  | [], _, _, _, h, h' => by rw [h.nil_left]; exact h'
  | _ :: as, _, _, _, h, h' => by
    obtain ⟨v, vs', rfl, h1, h2⟩ := h.cons_left
    exact VL.cons_of h1 (VL.app h2 h')

theorem VL.takes : ∀ {as : List AV} {vs : List Value} (n : Nat), VL g w as vs → VL g w (as.take n) (vs.take n)
  | [], _, n, h => by rw [h.nil_left]; simpa using VL.nil
  | _ :: as, _, n, h => by
    obtain ⟨v, vs', rfl, h1, h2⟩ := h.cons_left
    cases n with
    | zero => simpa using VL.nil
    | succ n => exact VL.cons_of h1 (VL.takes n h2)

theorem VL.drops : ∀ {as : List AV} {vs : List Value} (n : Nat), VL g w as vs → VL g w (as.drop n) (vs.drop n)
  | [], _, n, h => by rw [h.nil_left]; simpa using VL.nil
  | _ :: as, _, n, h => by
    obtain ⟨v, vs', rfl, h1, h2⟩ := h.cons_left
    cases n with
    | zero => exact VL.cons_of h1 h2
    | succ n => exact VL.drops n h2

theorem VL.of_get : ∀ {as : List AV} {vs : List Value}, vs.length = as.length → (∀ (i : Nat) (a : AV), as[i]? = some a → ∃ v, vs[i]? = some v ∧ V g w a v) → VL g w as vs
  | [], vs, hl, _ => by
    have : vs = [] := List.length_eq_zero_iff.1 hl
    subst this; exact .nil
  | a :: as, vs, hl, h => by
    cases vs with
    | nil => simp at hl
    | cons v vs =>
      obtain ⟨v', h1, h2⟩ := h 0 a rfl
      simp at h1; subst h1
      refine VL.cons_of h2 (VL.of_get (by simpa using hl) fun i a hi => ?_)
      obtain ⟨u, h3, h4⟩ := h (i + 1) a (by simpa using hi)
      exact ⟨u, by simpa using h3, h4⟩

/-- What holds on in a later world. -/
structure Later (g : G) (w : World) (g' : G) (w' : World) : Prop where
  sb : ∀ (n b : Nat), g.sb[n]? = some b → g'.sb[n]? = some b
  hb : ∀ (n b : Nat), g.hb[n]? = some b → g'.hb[n]? = some b
  cell : ∀ (b o : Nat) (v : Value), w.cell? ⟨b, o, none⟩ = some v → ¬ g.wr b o → w'.cell? ⟨b, o, none⟩ = some v ∧ ¬ g'.wr b o

theorem Later.ref (m : Later g w g' w') {r : Ref} {b : Nat} (h : g.ref r = some b) : g'.ref r = some b := by
  cases r with
  | stk n => exact m.sb n b h
  | heap n => exact m.hb n b h

theorem Lies.later (m : Later g w g' w') {a : Addr} {xs : List Value} (h : Lies g w a xs) : Lies g' w' a xs :=
  fun i v hi => m.cell _ _ _ (h i v hi).1 (h i v hi).2

theorem VL.later (m : Later g w g' w') {as : List AV} {vs : List Value} (h : VL g w as vs) : VL g' w' as vs := by
  induction h with
  | nil => exact .nil
  | sc x _ ih => exact .sc x ih
  | undef v _ ih => exact .undef v ih
  | agg h0 _ _ ih1 ih => exact .agg h0 ih1 ih
  | tup _ _ ih1 ih => exact .tup ih1 ih
  | list h1 h2 h3 h4 h5 h6 h7 _ h9 _ ih1 ih => exact .list h1 h2 h3 h4 h5 h6 h7 ih1 (h9.later m) ih
  | lnil h1 _ ih => exact .lnil h1 ih
  | rop h1 h2 h3 _ h5 _ ih1 ih => exact .rop h1 h2 h3 ih1 (h5.later m) ih
  | ptr h1 _ ih => exact .ptr (m.ref h1) ih
  | row h1 h2 h3 _ ih => exact .row (m.ref h1) h2 h3 ih
  | map h1 _ ih => exact .map (m.hb _ _ h1) ih
  | fn _ _ _ ih1 ih2 ih => exact .fn ih1 ih2 ih
  | yield h1 _ ih => exact .yield (m.hb _ _ h1) ih

theorem under_low1 (m : Nat) : ∀ (a : AV), AV.under 0 a = true → AV.under m a = true := by
  intro a
  refine AV.under.induct (motive_2 := fun a => AV.under 0 a = true → AV.under m a = true) (motive_1 := fun l => AV.under.go 0 l = true → AV.under.go m l = true) ?_ ?_ ?_ ?_ ?_ ?_ ?_ ?_ a
  all_goals (intros; simp_all [AV.under, AV.under.go])

theorem under_low (m : Nat) : ∀ {l : List AV}, AV.under.go 0 l = true → AV.under.go m l = true
  | [], _ => by simp [AV.under.go]
  | a :: l, h => by
    simp only [AV.under.go, Bool.and_eq_true] at h ⊢
    exact ⟨under_low1 m a h.1, under_low m h.2⟩

theorem under_app {n : Nat} : ∀ {l l' : List AV}, AV.under.go n (l ++ l') = (AV.under.go n l && AV.under.go n l')
  | [], l' => by simp [AV.under.go]
  | a :: l, l' => by simp [AV.under.go, under_app (l := l), Bool.and_assoc]

theorem under_cells1 {n : Nat} {a : AV} (h : AV.under n a = true) : AV.under.go n a.cells = true := by
  cases a with
  | agg cs => simpa [AV.cells, AV.under] using h
  | _ => simp only [AV.cells, AV.under.go, h]; rfl

theorem under_cells {n : Nat} : ∀ {l : List AV}, AV.under.go n l = true → AV.under.go n (l.flatMap AV.cells) = true
  | [], h => by simpa using h
  | a :: l, h => by
    simp only [AV.under.go, Bool.and_eq_true] at h
    rw [List.flatMap_cons, under_app, under_cells1 h.1, under_cells h.2]; rfl

theorem under_mem {n : Nat} : ∀ {l : List AV}, AV.under.go n l = true ↔ ∀ a ∈ l, AV.under n a = true
  | [] => by simp [AV.under.go]
  | a :: l => by simp [AV.under.go, under_mem (l := l)]

/-- References that are below n need the first n boxes alone. -/
theorem VL.cut {n : Nat} {as : List AV} {vs : List Value} (h : VL g w as vs) (hu : AV.under.go n as = true) : VL { g with sb := g.sb.take n } w as vs := by
  have hh : ∀ (a : Addr) (xs : List Value), Lies g w a xs → Lies { g with sb := g.sb.take n } w a xs := fun _ _ h => h
  induction h with
  | nil => exact .nil
  | sc x _ ih => exact .sc x (ih (by simpa [AV.under.go, AV.under] using hu))
  | undef v _ ih => exact .undef v (ih (by simpa [AV.under.go, AV.under] using hu))
  | agg h0 _ _ ih1 ih => simp [AV.under.go, AV.under] at hu; exact .agg h0 (ih1 hu.1) (ih hu.2)
  | tup _ _ ih1 ih => simp [AV.under.go, AV.under] at hu; exact .tup (ih1 hu.1) (ih hu.2)
  | list h1 h2 h3 h4 h5 h6 h7 _ h9 _ ih1 ih =>
    simp [AV.under.go, AV.under] at hu
    exact .list h1 h2 h3 h4 h5 h6 h7 (ih1 (under_low _ (under_cells h7))) (hh _ _ h9) (ih hu)
  | lnil h1 _ ih => exact .lnil h1 (ih (by simpa [AV.under.go, AV.under] using hu))
  | rop h1 h2 h3 _ h5 _ ih1 ih => simp [AV.under.go, AV.under] at hu; exact .rop h1 h2 h3 (ih1 (under_low _ h3)) (hh _ _ h5) (ih hu)
  | @ptr r off b _ _ h1 _ ih =>
    cases r with
    | stk m => simp [AV.under.go, AV.under] at hu; exact .ptr (by simp only [G.ref] at *; rw [List.getElem?_take]; simp [hu.1, h1]) (ih hu.2)
    | heap m => simp [AV.under.go, AV.under] at hu; exact .ptr h1 (ih hu)
  | @row r off len cap c b _ _ h1 h2 h3 _ ih =>
    cases r with
    | stk m => simp [AV.under.go, AV.under] at hu; exact .row (by simp only [G.ref] at *; rw [List.getElem?_take]; simp [hu.1, h1]) h2 h3 (ih hu.2)
    | heap m => simp [AV.under.go, AV.under] at hu; exact .row h1 h2 h3 (ih hu)
  | map h1 _ ih => exact .map h1 (ih (by simpa [AV.under.go, AV.under] using hu))
  | fn _ _ _ ih1 ih2 ih => simp [AV.under.go, AV.under] at hu; exact .fn (ih1 hu.1.1) (ih2 hu.1.2) (ih hu.2)
  | yield h1 _ ih => exact .yield h1 (ih (by simpa [AV.under.go, AV.under] using hu))
end
end Go.AM
/-! The state, the frame, who owns what; how worlds follow each other. -/
namespace Go.AM
open Go
set_option linter.unusedVariables false

inductive Pl where
  | slot (i : Nat)
  | stk (n i : Nat)
  | heap (n i : Nat)
  deriving DecidableEq

abbrev Own := Pl → Nat → Nat → Prop

/-- The cells behind a slice, free to be written. -/
def Spare (w : World) (o : Nat → Nat → Prop) (a : Addr) (lo hi : Nat) : Prop :=
  ∀ j, lo ≤ j → j < hi → o a.block (a.off + j) ∧ (∃ v, w.cell? ⟨a.block, a.off + j, none⟩ = some v) ∧ w.frozen? ⟨a.block, a.off + j, none⟩ = false

structure Uniq (g : G) (w : World) (o : Nat → Nat → Prop) (sz : Nat) (es : List AV) (v : Value) (a : Addr) (cap : Nat) (xs : List Value) : Prop where
  val : v = .slice (some a) es.length cap
  le : es.length ≤ cap
  pos : 0 < sz
  spot : a.spot = none
  elems : Elems sz es
  low : AV.under.go 0 es = true
  vl : VL g w (es.flatMap AV.cells) xs
  cell : ∀ (i : Nat) (v : Value), xs[i]? = some v → w.cell? ⟨a.block, a.off + i, none⟩ = some v
  spare : Spare w o a 0 (cap * sz)
  off : a.off = 0
  lt : a.block < w.heap.size
  all : ∀ x, g.wr a.block x → o a.block x

/-- A value at a place that owns o. -/
def PV (g : G) (w : World) (o : Nat → Nat → Prop) (x : AV) (v : Value) : Prop :=
  match x with
  | .list .own sz es => V g w (.list .sh sz es) v ∧ ∃ a len cap, v = .slice (some a) len cap ∧ a.spot = none ∧ Spare w o a (len * sz) (cap * sz)
  | .list .uniq sz es => ∃ a cap xs, Uniq g w o sz es v a cap xs
  | x => V g w x v

structure OW (g : G) (ow : Own) : Prop where
  wr : ∀ p b o, ow p b o → g.wr b o
  box : ∀ p b o, ow p b o → ¬ g.isBox b
  one : ∀ p q b o, ow p b o → ow q b o → p = q

structure BoxOK (g : G) (w : World) (o : Nat → Nat → Nat → Prop) (b : Nat) (cs : List AV) (xs : Array Value) (E : TypeId) (fz : Nat × Nat) : Prop where
  obj : w.heap[b]? = some (.cells xs E fz)
  le : cs.length ≤ xs.size
  val : ∀ (i : Nat) (a : AV), cs[i]? = some a → ∃ v, xs[i]? = some v ∧ PV g w (o i) a v ∧ a.isCell = true
  wr : ∀ i, i < cs.length → g.wr b i ∧ ¬ (fz.1 ≤ i ∧ i < fz.2)

structure EntryOK (g : G) (w : World) (e : Entry) (x : MapEntry) : Prop where
  key : V g w e.key x.key
  val : V g w e.val x.val
  born : x.born = e.born
  low : AV.under 0 e.val = true
  plain : e.key.toV = some x.key

structure MapOK (g : G) (w : World) (b : Nat) (es : List Entry) (c : Nat) (xs : Array MapEntry) : Prop where
  obj : w.heap[b]? = some (.map xs c)
  size : xs.size = es.length
  val : ∀ (i : Nat) (e : Entry), es[i]? = some e → ∃ x, xs[i]? = some x ∧ EntryOK g w e x
  wr : g.wr b 0

def loopState (l : LoopA) : LoopState :=
  if l.ready then .ready else match l.pending with
    | none => .busy
    | some _ => .done

structure LoopOK (g : G) (w : World) (b : Nat) (l : LoopA) (r : Loop) : Prop where
  obj : w.heap[b]? = some (.loop r)
  params : r.params.toList = l.params
  assign : r.assign = l.assign
  body : r.body = l.body
  state : r.state = loopState l
  pending : r.pending = l.pending.map Ex.toCode
  fr : VL g w l.fr r.tmps.toList
  low : AV.under.go 0 l.fr = true
  wr : g.wr b 0

structure IterOK (g : G) (w : World) (b : Nat) (i : IterA) (m : Option Nat) : Prop where
  obj : w.heap[b]? = some (.mapIter m i.since i.seen.toArray i.stepped)
  nil : i.map = none → m = none
  map : ∀ h, i.map = some h → ∃ mb, m = some mb ∧ g.hb[h]? = some mb
  wr : g.wr b 0

structure SS (g : G) (w : World) (ow : Own) (σ : St) : Prop where
  slen : g.sb.length = σ.stk.length
  hlen : g.hb.length = σ.heap.length
  nodup : (g.sb ++ g.hb).Nodup
  lt : ∀ b o, g.wr b o → b < w.heap.size
  stk : ∀ (n : Nat) (cs : List AV), σ.stk[n]? = some cs → AV.under.go n cs = true ∧ ∃ b xs E fz, g.sb[n]? = some b ∧ BoxOK g w (fun i => ow (.stk n i)) b cs xs E fz
  heap : ∀ (n : Nat) (cs : List AV), σ.heap[n]? = some (.cells cs) → AV.under.go 0 cs = true ∧ ∃ b xs E fz, g.hb[n]? = some b ∧ BoxOK g w (fun i => ow (.heap n i)) b cs xs E fz
  maps : ∀ (n : Nat) (es : List Entry) (c : Nat), σ.heap[n]? = some (.map es c) → ∃ b xs, g.hb[n]? = some b ∧ MapOK g w b es c xs
  loops : ∀ (n : Nat) (l : LoopA), σ.heap[n]? = some (.loop l) → ∃ b r, g.hb[n]? = some b ∧ LoopOK g w b l r
  iters : ∀ (n : Nat) (i : IterA), σ.heap[n]? = some (.iter i) → ∃ b m, g.hb[n]? = some b ∧ IterOK g w b i m
  dead : ∀ (n : Nat), σ.heap[n]? = some .dead → ∃ b, g.hb[n]? = some b ∧ b < w.heap.size

structure SF (g : G) (w : World) (ow : Own) (fr : Fr) (tm : Array Value) : Prop where
  size : tm.size = fr.length
  val : ∀ (i : Nat) (a : AV), fr[i]? = some a → ∃ v, tm[i]? = some v ∧ PV g w (ow (.slot i)) a v

/-- What may be written at all by the call that goes on. -/
def May (g : G) (ow : Own) (b o : Nat) : Prop := (g.isBox b ∧ g.wr b o) ∨ ∃ p, ow p b o

def SameEnv (w w' : World) : Prop := w'.os = w.os ∧ w'.tape = w.tape ∧ w'.output = w.output

structure Tr (M : Nat → Nat → Prop) (g : G) (w : World) (g' : G) (w' : World) : Prop where
  size : w.heap.size ≤ w'.heap.size
  obj : ∀ b, b < w.heap.size → (∀ o, ¬ M b o) → w'.heap[b]? = w.heap[b]?
  cell : ∀ b o, b < w.heap.size → ¬ M b o → w'.cell? ⟨b, o, none⟩ = w.cell? ⟨b, o, none⟩
  live : ∀ b o v, w.cell? ⟨b, o, none⟩ = some v → ∃ v', w'.cell? ⟨b, o, none⟩ = some v'
  froz : ∀ b o, b < w.heap.size → w'.frozen? ⟨b, o, none⟩ = w.frozen? ⟨b, o, none⟩
  wr : ∀ b o, g'.wr b o → g.wr b o ∨ w.heap.size ≤ b
  sb : ∀ (n b : Nat), g.sb[n]? = some b → g'.sb[n]? = some b
  hb : ∀ (n b : Nat), g.hb[n]? = some b → g'.hb[n]? = some b
  env : SameEnv w w'

section
variable {g g' g'' : G} {w w' w'' : World} {ow ow' : Own} {M M' : Nat → Nat → Prop}

theorem cell_lt {w : World} {b o : Nat} {v : Value} (h : w.cell? ⟨b, o, none⟩ = some v) : b < w.heap.size := by
  unfold World.cell? at h
  rcases Nat.lt_or_ge b w.heap.size with h1 | h1
  · exact h1
  · simp [Array.getElem?_eq_none h1] at h

theorem Tr.refl (M : Nat → Nat → Prop) (g : G) (w : World) : Tr M g w g w :=
  ⟨Nat.le_refl _, fun _ _ _ => rfl, fun _ _ _ _ => rfl, fun _ _ v h => ⟨v, h⟩, fun _ _ _ => rfl, fun _ _ h => .inl h, fun _ _ h => h, fun _ _ h => h, ⟨rfl, rfl, rfl⟩⟩

theorem Tr.weaken (t : Tr M g w g' w') (h : ∀ b o, M b o → M' b o) : Tr M' g w g' w' :=
  ⟨t.size, fun b hb hm => t.obj b hb fun o hM => hm o (h _ _ hM), fun b o hb hm => t.cell b o hb fun hM => hm (h _ _ hM), t.live, t.froz, t.wr, t.sb, t.hb, t.env⟩

theorem Tr.trans (t : Tr M g w g' w') (t' : Tr M' g' w' g'' w'') (h : ∀ b o, M' b o → M b o ∨ w.heap.size ≤ b) : Tr M g w g'' w'' where
  size := Nat.le_trans t.size t'.size
  obj b hb hm := by
    rw [t'.obj b (Nat.lt_of_lt_of_le hb t.size) fun o hM => (h b o hM).elim (hm o) fun h2 => by omega, t.obj b hb hm]
  cell b o hb hm := by
    rw [t'.cell b o (Nat.lt_of_lt_of_le hb t.size) fun hM => (h b o hM).elim hm fun h2 => by omega, t.cell b o hb hm]
  live b o v hv := by obtain ⟨v', h1⟩ := t.live b o v hv; exact t'.live b o v' h1
  froz b o hb := by rw [t'.froz b o (Nat.lt_of_lt_of_le hb t.size), t.froz b o hb]
  wr b o hw := by
    rcases t'.wr b o hw with h1 | h1
    · exact t.wr b o h1
    · exact .inr (Nat.le_trans t.size h1)
  sb n b hb := t'.sb n b (t.sb n b hb)
  hb n b hb := t'.hb n b (t.hb n b hb)
  env := ⟨t'.env.1.trans t.env.1, t'.env.2.1.trans t.env.2.1, t'.env.2.2.trans t.env.2.2⟩

theorem Tr.later (t : Tr M g w g' w') (h : ∀ b o, M b o → g.wr b o) : Later g w g' w' where
  sb := t.sb
  hb := t.hb
  cell b o v hv hw := by
    have hb := cell_lt hv
    refine ⟨by rw [t.cell b o hb fun hM => hw (h _ _ hM)]; exact hv, fun hw' => ?_⟩
    rcases t.wr b o hw' with h1 | h1
    · exact hw h1
    · omega

theorem Spare.later (t : Tr M g w g' w') {o : Nat → Nat → Prop} {a : Addr} {lo hi : Nat} (h : Spare w o a lo hi) : Spare w' o a lo hi := by
  intro j h1 h2
  obtain ⟨h3, ⟨v, h4⟩, h5⟩ := h j h1 h2
  exact ⟨h3, t.live _ _ _ h4, by rw [t.froz _ _ (cell_lt h4)]; exact h5⟩

theorem Uniq.len {o : Nat → Nat → Prop} {sz : Nat} {es : List AV} {v : Value} {a : Addr} {cap : Nat} {xs : List Value} (h : Uniq g w o sz es v a cap xs) : xs.length = es.length * sz := by
  have h1 : ∀ {l : List AV}, (∀ e ∈ l, e.cells.length = sz) → (l.flatMap AV.cells).length = l.length * sz := by
    intro l
    induction l with
    | nil => intro _; simp
    | cons e l ih =>
      intro he
      rw [List.flatMap_cons, List.length_append, ih fun e h => he e (by simp [h]), he e (by simp), List.length_cons, Nat.add_mul, Nat.one_mul, Nat.add_comm]
  rw [h.vl.length, h1 fun e he => (h.elems e he).1]

theorem PV.later (t : Tr M g w g' w') (hM : ∀ b o, M b o → g.wr b o) {o : Nat → Nat → Prop} (ho : ∀ b i, o b i → ¬ M b i) {x : AV} {v : Value} (h : PV g w o x v) : PV g' w' o x v := by
  have L := t.later hM
  cases x with
  | list fl sz es =>
    cases fl with
    | own =>
      obtain ⟨h1, a, len, cap, h2, h30, h3⟩ := h
      exact ⟨VL.later L h1, a, len, cap, h2, h30, h3.later t⟩
    | uniq =>
      obtain ⟨a, cap, xs, u⟩ := h
      refine ⟨a, cap, xs, u.val, u.le, u.pos, u.spot, u.elems, u.low, u.vl.later L, fun i v hi => ?_, u.spare.later t, u.off, Nat.lt_of_lt_of_le u.lt t.size, fun x hx => u.all x ((t.wr _ _ hx).resolve_right (by have := u.lt; omega))⟩
      have hc := u.cell i v hi
      have hl : i < cap * sz := Nat.lt_of_lt_of_le (List.getElem?_eq_some_iff.1 hi).1 (by rw [u.len]; exact Nat.mul_le_mul_right _ u.le)
      rw [t.cell _ _ (cell_lt hc) (by have := (u.spare i (Nat.zero_le _) hl).1; exact ho _ _ this)]
      exact hc
    | sh => exact VL.later L h
    | full => exact VL.later L h
  | _ => exact VL.later L h

/-- What is not a list of one's own is a plain value. -/
def AV.common : AV → Bool
  | .list .own _ _ | .list .uniq _ _ => false
  | _ => true

theorem PV.of {o : Nat → Nat → Prop} {x : AV} {v : Value} (h : V g w x v) : PV g w o x v := by
  cases x with
  | list fl sz es =>
    cases fl with
    | own => cases h with | list h1 => simp at h1
    | uniq => cases h with | list h1 => simp at h1
    | sh => exact h
    | full => exact h
  | _ => exact h

theorem PV.plain {o : Nat → Nat → Prop} {x : AV} {v : Value} (h : PV g w o x v) (hc : x.common = true) : V g w x v := by
  cases x with
  | list fl sz es => cases fl <;> first | exact h | simp [AV.common] at hc
  | _ => exact h

/-- Another owner, of as much. -/
theorem PV.move {o o' : Nat → Nat → Prop} {x : AV} {v : Value} (h : PV g w o x v) (ho : ∀ b i, o b i → o' b i) : PV g w o' x v := by
  have hs : ∀ a lo hi, Spare w o a lo hi → Spare w o' a lo hi := fun a lo hi h j h1 h2 => ⟨ho _ _ (h j h1 h2).1, (h j h1 h2).2⟩
  cases x with
  | list fl sz es =>
    cases fl with
    | own => obtain ⟨h1, a, len, cap, h2, h30, h3⟩ := h; exact ⟨h1, a, len, cap, h2, h30, hs _ _ _ h3⟩
    | uniq => obtain ⟨a, cap, xs, u⟩ := h; exact ⟨a, cap, xs, { u with spare := hs _ _ _ u.spare, all := fun x hx => ho _ _ (u.all x hx) }⟩
    | sh => exact h
    | full => exact h
  | _ => exact h
end
end Go.AM
/-! How the relation goes on: nothing written, a new box, a store. -/
namespace Go.AM
open Go
set_option linter.unusedVariables false

section
variable {g g' g'' : G} {w w' w'' : World} {ow ow' : Own} {M M' : Nat → Nat → Prop} {σ σ' : St}

abbrev Nought : Nat → Nat → Prop := fun _ _ => False

theorem G.isBox_lt (s : SS g w ow σ) {b : Nat} (h : g.isBox b) : b < w.heap.size := by
  have hlt : ∀ {b : Nat} {o : Obj}, w.heap[b]? = some o → b < w.heap.size := fun h => (Array.getElem?_eq_some_iff.1 h).1
  rcases h with h | h
  · obtain ⟨n, hn, rfl⟩ := List.getElem_of_mem h
    have hn' : n < σ.stk.length := s.slen ▸ hn
    obtain ⟨_, b, xs, E, fz, h1, h2⟩ := s.stk n _ (List.getElem?_eq_getElem hn')
    rw [List.getElem?_eq_getElem hn] at h1
    injection h1 with h1; rw [h1]; exact hlt h2.obj
  · obtain ⟨n, hn, rfl⟩ := List.getElem_of_mem h
    have hn' : n < σ.heap.length := s.hlen ▸ hn
    have hg := List.getElem?_eq_getElem hn'
    cases ho : σ.heap[n] with
    | cells cs =>
      rw [ho] at hg
      obtain ⟨_, b, xs, E, fz, h1, h2⟩ := s.heap n _ hg
      rw [List.getElem?_eq_getElem hn] at h1
      injection h1 with h1; rw [h1]; exact hlt h2.obj
    | map es c =>
      rw [ho] at hg
      obtain ⟨b, xs, h1, h2⟩ := s.maps n es c hg
      rw [List.getElem?_eq_getElem hn] at h1
      injection h1 with h1; rw [h1]; exact hlt h2.obj
    | loop l =>
      rw [ho] at hg
      obtain ⟨b, r, h1, h2⟩ := s.loops n l hg
      rw [List.getElem?_eq_getElem hn] at h1
      injection h1 with h1; rw [h1]; exact hlt h2.obj
    | iter i =>
      rw [ho] at hg
      obtain ⟨b, r, h1, h2⟩ := s.iters n i hg
      rw [List.getElem?_eq_getElem hn] at h1
      injection h1 with h1; rw [h1]; exact hlt h2.obj
    | dead =>
      rw [ho] at hg
      obtain ⟨b, h1, h2⟩ := s.dead n hg
      rw [List.getElem?_eq_getElem hn] at h1
      injection h1 with h1; rw [h1]; exact h2

theorem Tr.lt (t : Tr M g w g' w') {b : Nat} (h : b < w.heap.size) : b < w'.heap.size := Nat.lt_of_lt_of_le h t.size

theorem BoxOK.still (t : Tr Nought g w g' w') {o o' : Nat → Nat → Nat → Prop} {b : Nat} {cs : List AV} {xs : Array Value} {E : TypeId} {fz : Nat × Nat} (h : BoxOK g w o b cs xs E fz)
    (ho : ∀ i b x, o i b x → o' i b x) (hw : ∀ o, g.wr b o → g'.wr b o) : BoxOK g' w' o' b cs xs E fz where
  obj := by
    have hb : b < w.heap.size := (Array.getElem?_eq_some_iff.1 h.obj).1
    rw [t.obj b hb fun _ h => h]; exact h.obj
  le := h.le
  val i a hi := by
    obtain ⟨v, h1, h2, h3⟩ := h.val i a hi
    exact ⟨v, h1, (h2.later t (fun _ _ h => h.elim) (fun _ _ _ h => h)).move (ho i), h3⟩
  wr i hi := ⟨hw _ (h.wr i hi).1, (h.wr i hi).2⟩

theorem EntryOK.later (L : Later g w g' w') {e : Entry} {x : MapEntry} (h : EntryOK g w e x) : EntryOK g' w' e x :=
  ⟨h.key.later L, h.val.later L, h.born, h.low, h.plain⟩

theorem MapOK.still (t : Tr Nought g w g' w') {b : Nat} {es : List Entry} {c : Nat} {xs : Array MapEntry} (h : MapOK g w b es c xs) (hw : ∀ o, g.wr b o → g'.wr b o) : MapOK g' w' b es c xs where
  obj := by
    have hb : b < w.heap.size := (Array.getElem?_eq_some_iff.1 h.obj).1
    rw [t.obj b hb fun _ h => h]; exact h.obj
  size := h.size
  val i e hi := by
    obtain ⟨x, h1, h2⟩ := h.val i e hi
    exact ⟨x, h1, h2.later (t.later fun _ _ h => h.elim)⟩
  wr := hw _ h.wr

theorem LoopOK.still (t : Tr Nought g w g' w') {b : Nat} {l : LoopA} {r : Loop} (h : LoopOK g w b l r) (hw : ∀ o, g.wr b o → g'.wr b o) : LoopOK g' w' b l r :=
  { h with
    obj := by
      have hb : b < w.heap.size := (Array.getElem?_eq_some_iff.1 h.obj).1
      rw [t.obj b hb fun _ h => h]; exact h.obj
    fr := h.fr.later (t.later fun _ _ h => h.elim)
    wr := hw _ h.wr }

theorem IterOK.still (t : Tr Nought g w g' w') {b : Nat} {i : IterA} {m : Option Nat} (h : IterOK g w b i m) (hw : ∀ o, g.wr b o → g'.wr b o) : IterOK g' w' b i m where
  obj := by
    have hb : b < w.heap.size := (Array.getElem?_eq_some_iff.1 h.obj).1
    rw [t.obj b hb fun _ h => h]; exact h.obj
  nil := h.nil
  map k hk := by
    obtain ⟨mb, h1, h2⟩ := h.map k hk
    exact ⟨mb, h1, t.hb _ _ h2⟩
  wr := hw _ h.wr

theorem SS.still (s : SS g w ow σ) (t : Tr Nought g w g' w') (hlt : ∀ b o, g'.wr b o → b < w'.heap.size) (hs : g'.sb = g.sb) (hh : g'.hb = g.hb) (hw : ∀ b o, g.isBox b → g.wr b o → g'.wr b o)
    (ho : ∀ n i b x, ow (.stk n i) b x → ow' (.stk n i) b x) (ho' : ∀ n i b x, ow (.heap n i) b x → ow' (.heap n i) b x) : SS g' w' ow' σ where
  slen := by rw [hs]; exact s.slen
  hlen := by rw [hh]; exact s.hlen
  nodup := by rw [hs, hh]; exact s.nodup
  lt := hlt
  stk n cs hn := by
    obtain ⟨h0, b, xs, E, fz, h1, h2⟩ := s.stk n cs hn
    exact ⟨h0, b, xs, E, fz, by rw [hs]; exact h1, h2.still t (ho n) fun o => hw b o (.inl (List.mem_of_getElem? h1))⟩
  heap n cs hn := by
    obtain ⟨h0, b, xs, E, fz, h1, h2⟩ := s.heap n cs hn
    exact ⟨h0, b, xs, E, fz, by rw [hh]; exact h1, h2.still t (ho' n) fun o => hw b o (.inr (List.mem_of_getElem? h1))⟩
  maps n es c hn := by
    obtain ⟨b, xs, h1, h2⟩ := s.maps n es c hn
    exact ⟨b, xs, by rw [hh]; exact h1, h2.still t fun o => hw b o (.inr (List.mem_of_getElem? h1))⟩
  loops n l hn := by
    obtain ⟨b, r, h1, h2⟩ := s.loops n l hn
    exact ⟨b, r, by rw [hh]; exact h1, h2.still t fun o => hw b o (.inr (List.mem_of_getElem? h1))⟩
  iters n l hn := by
    obtain ⟨b, r, h1, h2⟩ := s.iters n l hn
    exact ⟨b, r, by rw [hh]; exact h1, h2.still t fun o => hw b o (.inr (List.mem_of_getElem? h1))⟩
  dead n hn := by
    obtain ⟨b, h1, h2⟩ := s.dead n hn
    exact ⟨b, by rw [hh]; exact h1, t.lt h2⟩

theorem SF.later {fr : Fr} {tm : Array Value} (s : SF g w ow fr tm) (t : Tr M g w g' w') (hM : ∀ b o, M b o → g.wr b o) (hd : ∀ i b x, ow (.slot i) b x → ¬ M b x) (ho : ∀ i b x, ow (.slot i) b x → ow' (.slot i) b x) : SF g' w' ow' fr tm where
  size := s.size
  val i a hi := by
    obtain ⟨v, h1, h2⟩ := s.val i a hi
    exact ⟨v, h1, (h2.later t hM (hd i)).move (ho i)⟩

theorem Tr.heap (h : w'.heap = w.heap) (he : SameEnv w w' := by exact ⟨rfl, rfl, rfl⟩) : Tr M g w g w' where
  env := he
  size := by rw [h]; exact Nat.le_refl _
  obj b _ _ := by rw [h]
  cell b o _ _ := by unfold World.cell?; rw [h]
  live b o v hv := ⟨v, by unfold World.cell? at *; rw [h]; exact hv⟩
  froz b o _ := by unfold World.frozen?; rw [h]
  wr _ _ h := .inl h
  sb _ _ h := h
  hb _ _ h := h

/-- A new block, and who may write there. -/
theorem Tr.new {ob : Obj} (h : w'.heap = w.heap.push ob) {X : Nat → Prop} {sb hb : List Nat} (hsb : ∀ (n b : Nat), g.sb[n]? = some b → sb[n]? = some b) (hhb : ∀ (n b : Nat), g.hb[n]? = some b → hb[n]? = some b) (he : SameEnv w w' := by exact ⟨rfl, rfl, rfl⟩) :
    Tr M g w ⟨sb, hb, fun b o => g.wr b o ∨ b = w.heap.size ∧ X o⟩ w' where
  env := he
  size := by rw [h]; simp
  obj b hb _ := by rw [h, Array.getElem?_push_lt hb, Array.getElem?_eq_getElem hb]
  cell b o hb _ := by unfold World.cell?; rw [h, Array.getElem?_push_lt hb, Array.getElem?_eq_getElem hb]
  live b o v hv := by
    have hb := cell_lt hv
    exact ⟨v, by unfold World.cell? at *; rw [h, Array.getElem?_push_lt hb]; rw [Array.getElem?_eq_getElem hb] at hv; exact hv⟩
  froz b o hb := by unfold World.frozen?; rw [h, Array.getElem?_push_lt hb, Array.getElem?_eq_getElem hb]
  wr b o hw := hw.imp id fun h => by rw [h.1]; exact Nat.le_refl _
  sb := hsb
  hb := hhb

structure Rel (g : G) (w : World) (ow : Own) (fr : Fr) (tm : Array Value) (σ : St) : Prop where
  ss : SS g w ow σ
  own : OW g ow
  sf : SF g w ow fr tm

/-- Cells that nobody owns but the value in hand. -/
structure Free (g : G) (ow : Own) (ro : Nat → Nat → Prop) : Prop where
  wr : ∀ b o, ro b o → g.wr b o
  box : ∀ b o, ro b o → ¬ g.isBox b
  apart : ∀ p b o, ow p b o → ¬ ro b o

def Nobody : Nat → Nat → Prop := fun _ _ => False

theorem Free.nobody (g : G) (ow : Own) : Free g ow Nobody := ⟨fun _ _ h => h.elim, fun _ _ h => h.elim, fun _ _ _ _ h => h⟩

def Own.set (ow : Own) (p : Pl) (o : Nat → Nat → Prop) : Own := fun q => if q = p then o else ow q

theorem Own.set_same (ow : Own) (p : Pl) (o : Nat → Nat → Prop) : ow.set p o p = o := by simp [Own.set]
theorem Own.set_other (ow : Own) {p q : Pl} (o : Nat → Nat → Prop) (h : q ≠ p) : ow.set p o q = ow q := by simp [Own.set, h]

theorem OW.set (h : OW g ow) {p : Pl} {ro : Nat → Nat → Prop} (f : Free g ow ro) : OW g (ow.set p ro) where
  wr q b o hq := by
    by_cases e : q = p
    · rw [e, Own.set_same] at hq; exact f.wr _ _ hq
    · rw [Own.set_other _ _ e] at hq; exact h.wr _ _ _ hq
  box q b o hq := by
    by_cases e : q = p
    · rw [e, Own.set_same] at hq; exact f.box _ _ hq
    · rw [Own.set_other _ _ e] at hq; exact h.box _ _ _ hq
  one q r b o hq hr := by
    by_cases e : q = p <;> by_cases e' : r = p
    · rw [e, e']
    · rw [e, Own.set_same] at hq; rw [Own.set_other _ _ e'] at hr; exact (f.apart _ _ _ hr hq).elim
    · rw [e', Own.set_same] at hr; rw [Own.set_other _ _ e] at hq; exact (f.apart _ _ _ hq hr).elim
    · rw [Own.set_other _ _ e] at hq; rw [Own.set_other _ _ e'] at hr; exact h.one _ _ _ _ hq hr

theorem OW.take (h : OW g ow) (p : Pl) : Free g (ow.set p Nobody) (ow p) where
  wr b o hq := h.wr _ _ _ hq
  box b o hq := h.box _ _ _ hq
  apart q b o hq hp := by
    by_cases e : q = p
    · rw [e, Own.set_same] at hq; exact hq
    · rw [Own.set_other _ _ e] at hq; exact e (h.one _ _ _ _ hq hp)

theorem SS.own (s : SS g w ow σ) (ho : ∀ n i b x, ow (.stk n i) b x → ow' (.stk n i) b x) (ho' : ∀ n i b x, ow (.heap n i) b x → ow' (.heap n i) b x) : SS g w ow' σ :=
  s.still (Tr.refl _ g w) s.lt rfl rfl (fun _ _ _ h => h) ho ho'

def put (dst : Option Tmp) (v : Value) (tm : Array Value) : Array Value :=
  match dst with
  | some d => tm.setIfInBounds d v
  | none => tm

theorem SF.set {fr : Fr} {tm : Array Value} (s : SF g w ow fr tm) {d : Nat} {x : AV} {v : Value} (h : PV g w (ow' (.slot d)) x v) (ho : ∀ i, i ≠ d → ow' (.slot i) = ow (.slot i)) : SF g w ow' (fr.set d x) (tm.setIfInBounds d v) where
  size := by simp [s.size]
  val i a hi := by
    by_cases e : i = d
    · subst e
      have hl : i < fr.length := by
        rcases Nat.lt_or_ge i fr.length with h1 | h1
        · exact h1
        · rw [List.getElem?_eq_none (by simpa using h1)] at hi; simp at hi
      rw [List.getElem?_set_self hl] at hi
      injection hi with hi; subst hi
      exact ⟨v, by rw [Array.getElem?_setIfInBounds_self_of_lt (by rw [s.size]; exact hl)], h⟩
    · rw [List.getElem?_set_ne (Ne.symm e)] at hi
      obtain ⟨u, h1, h2⟩ := s.val i a hi
      exact ⟨u, by rw [Array.getElem?_setIfInBounds_ne (Ne.symm e)]; exact h1, by rw [ho i e]; exact h2⟩

/-- The value of an operation goes to its slot. -/
theorem Rel.put {fr : Fr} {tm : Array Value} (r : Rel g w ow fr tm σ) {dst : Option Tmp} {x : AV} {v : Value} {ro : Nat → Nat → Prop} (h : PV g w ro x v) (f : Free g ow ro) :
    ∃ ow', Rel g w ow' (putA dst x fr) (AM.put dst v tm) σ ∧ (∀ p b o, ow' p b o → ow p b o ∨ ro b o) ∧ (∀ n i, ow' (.stk n i) = ow (.stk n i)) ∧ (∀ n i, ow' (.heap n i) = ow (.heap n i)) := by
  cases dst with
  | none => exact ⟨ow, r, fun p b o h => .inl h, fun _ _ => rfl, fun _ _ => rfl⟩
  | some d =>
    refine ⟨ow.set (.slot d) ro, ⟨?_, r.own.set f, ?_⟩, ?_, ?_, ?_⟩
    · exact r.ss.own (fun n i b x h => by rw [Own.set_other _ _ (by simp)]; exact h) (fun n i b x h => by rw [Own.set_other _ _ (by simp)]; exact h)
    · exact r.sf.set (by rw [Own.set_same]; exact h) fun i e => Own.set_other _ _ (by simpa using e)
    · intro p b o h
      by_cases e : p = .slot d
      · rw [e, Own.set_same] at h; exact .inr h
      · rw [Own.set_other _ _ e] at h; exact .inl h
    · intro n i; exact Own.set_other _ _ (by simp)
    · intro n i; exact Own.set_other _ _ (by simp)
end
end Go.AM
/-! Operands, what is taken, boxes that are written. -/
namespace Go.AM
open Go
set_option linter.unusedVariables false

section
variable {g g' g'' : G} {w w' w'' : World} {ow ow' : Own} {M M' : Nat → Nat → Prop} {σ σ' : St}

theorem Sc.toV_ofV {v : Value} {x : Sc} (h : Sc.ofV v = some x) : x.toV = v := by
  unfold Sc.ofV at h
  split at h <;> simp at h <;> subst h <;> rfl

theorem PV.left {o : Nat → Nat → Prop} {x : AV} {v : Value} (h : PV g w o x v) : PV g w Nobody x.left v := by
  cases x with
  | list fl sz es =>
    cases fl with
    | own => exact h.1
    | uniq => exact VL.undef v .nil
    | sh => exact h
    | full => exact h
  | _ => exact h

theorem PV.undef {o : Nat → Nat → Prop} (v : Value) : PV g w o .undef v := VL.undef v .nil

/-- An operand's value at its place. -/
def ownOf (ow : Own) : Operand → Nat → Nat → Prop
  | .tmp t => ow (.slot t)
  | _ => Nobody

theorem SF.getD {fr : Fr} {tm : Array Value} (s : SF g w ow fr tm) (t : Nat) : PV g w (ow (.slot t)) (fr.getD t .undef) (tm.getD t undef) := by
  rcases Nat.lt_or_ge t fr.length with h | h
  · obtain ⟨v, h1, h2⟩ := s.val t _ (List.getElem?_eq_getElem h)
    have h3 : fr.getD t .undef = fr[t] := by simp [List.getD, h]
    have h4 : tm.getD t undef = v := by simp [h1]
    rw [h3, h4]; exact h2
  · rw [show fr.getD t .undef = .undef by simp [List.getD, List.getElem?_eq_none h]]
    exact PV.undef _

theorem SF.opnd {fr : Fr} {a : Act} (s : SF g w ow fr a.tmps) (x : Operand) : PV g w (ownOf ow x) (opnd fr x) (a.eval x) := by
  cases x with
  | tmp t => exact s.getD t
  | const v =>
    simp only [AM.opnd, Act.eval, AV.ofV]
    cases h : Sc.ofV v with
    | none => exact PV.undef _
    | some x => rw [← Sc.toV_ofV h]; exact PV.of (.sc x .nil)
  | global n => exact PV.undef _
  | func f => exact PV.of (.fn .nil .nil .nil)

theorem opnd_const_common (fr : Fr) (x : Operand) (h : ∀ t, x ≠ .tmp t) : (AM.opnd fr x).common = true := by
  cases x with
  | tmp t => exact (h t rfl).elim
  | const v => simp only [AM.opnd, AV.ofV]; split <;> rfl
  | global n => rfl
  | func f => rfl

theorem Rel.take {fr : Fr} {a : Act} (r : Rel g w ow fr a.tmps σ) (t : Nat) :
    PV g w (ow (.slot t)) (fr.getD t .undef) (a.tmps.getD t undef) ∧ Rel g w (ow.set (.slot t) Nobody) (fr.set t (fr.getD t .undef).left) a.tmps σ ∧ Free g (ow.set (.slot t) Nobody) (ow (.slot t)) := by
  refine ⟨r.sf.getD t, ⟨?_, r.own.set (Free.nobody _ _), ?_⟩, r.own.take _⟩
  · exact r.ss.own (fun n i b x h => by rw [Own.set_other _ _ (by simp)]; exact h) (fun n i b x h => by rw [Own.set_other _ _ (by simp)]; exact h)
  · have h := (r.sf.getD t).left
    refine ⟨by simp [r.sf.size], fun i x hi => ?_⟩
    by_cases e : i = t
    · subst e
      have hl : i < fr.length := by
        rcases Nat.lt_or_ge i fr.length with h1 | h1
        · exact h1
        · rw [List.getElem?_eq_none (by simpa using h1)] at hi; simp at hi
      rw [List.getElem?_set_self hl] at hi
      injection hi with hi; subst hi
      obtain ⟨v, h1, _⟩ := r.sf.val i _ (List.getElem?_eq_getElem hl)
      refine ⟨v, h1, ?_⟩
      rw [show a.tmps.getD i undef = v by simp [h1]] at h
      rw [Own.set_same]; exact h
    · rw [List.getElem?_set_ne (Ne.symm e)] at hi
      obtain ⟨u, h1, h2⟩ := r.sf.val i x hi
      exact ⟨u, h1, by rw [Own.set_other _ _ (by simpa using e)]; exact h2⟩

def Ref.pl (r : Ref) (i : Nat) : Pl :=
  match r with
  | .stk n => .stk n i
  | .heap n => .heap n i

def Ref.level : Ref → Nat
  | .stk n => n
  | .heap _ => 0

theorem SS.box (s : SS g w ow σ) {r : Ref} {cs : List AV} (h : boxOf σ r = some cs) : AV.under.go r.level cs = true ∧ ∃ b xs E fz, g.ref r = some b ∧ BoxOK g w (fun i => ow (r.pl i)) b cs xs E fz := by
  cases r with
  | stk n => exact s.stk n cs h
  | heap n =>
    simp only [boxOf] at h
    split at h
    · rename_i cs' hn; injection h with h; subst h; exact s.heap n _ hn
    · cases h

theorem G.ref_isBox {r : Ref} {b : Nat} (h : g.ref r = some b) : g.isBox b := by
  cases r with
  | stk n => exact .inl (List.mem_of_getElem? h)
  | heap n => exact .inr (List.mem_of_getElem? h)

theorem nodup_ref {sb hb : List Nat} (h : (sb ++ hb).Nodup) : (∀ (i j b : Nat), sb[i]? = some b → sb[j]? = some b → i = j) ∧ (∀ (i j b : Nat), hb[i]? = some b → hb[j]? = some b → i = j) ∧ (∀ (i j b : Nat), sb[i]? = some b → hb[j]? = some b → False) := by
  obtain ⟨h1, h2, h3⟩ := List.nodup_append.1 h
  refine ⟨fun i j b hi hj => ?_, fun i j b hi hj => ?_, fun i j b hi hj => h3 b (List.mem_of_getElem? hi) b (List.mem_of_getElem? hj) rfl⟩
  · exact (List.getElem?_inj (List.getElem?_eq_some_iff.1 hi).1 h1).1 (hi.trans hj.symm)
  · exact (List.getElem?_inj (List.getElem?_eq_some_iff.1 hi).1 h2).1 (hi.trans hj.symm)

theorem BoxOK.later (t : Tr M g w g' w') (hM : ∀ b o, M b o → g.wr b o) {o o' : Nat → Nat → Nat → Prop} {b : Nat} {cs : List AV} {xs : Array Value} {E : TypeId} {fz : Nat × Nat} (h : BoxOK g w o b cs xs E fz)
    (hb' : ∀ o, ¬ M b o) (hd : ∀ i b x, o i b x → ¬ M b x) (ho : ∀ i b x, o i b x → o' i b x) (hw : ∀ o, g.wr b o → g'.wr b o) : BoxOK g' w' o' b cs xs E fz where
  obj := by
    have hb : b < w.heap.size := (Array.getElem?_eq_some_iff.1 h.obj).1
    rw [t.obj b hb hb']; exact h.obj
  le := h.le
  val i a hi := by
    obtain ⟨v, h1, h2, h3⟩ := h.val i a hi
    exact ⟨v, h1, (h2.later t hM (hd i)).move (ho i), h3⟩
  wr i hi := ⟨hw _ (h.wr i hi).1, (h.wr i hi).2⟩

theorem MapOK.later (t : Tr M g w g' w') (hM : ∀ b o, M b o → g.wr b o) {b : Nat} {es : List Entry} {c : Nat} {xs : Array MapEntry} (h : MapOK g w b es c xs) (hb' : ∀ o, ¬ M b o) (hw : ∀ o, g.wr b o → g'.wr b o) : MapOK g' w' b es c xs where
  obj := by
    have hb : b < w.heap.size := (Array.getElem?_eq_some_iff.1 h.obj).1
    rw [t.obj b hb hb']; exact h.obj
  size := h.size
  val i e hi := by
    obtain ⟨x, h1, h2⟩ := h.val i e hi
    exact ⟨x, h1, h2.later (t.later hM)⟩
  wr := hw _ h.wr

theorem LoopOK.later (t : Tr M g w g' w') (hM : ∀ b o, M b o → g.wr b o) {b : Nat} {l : LoopA} {r : Loop} (h : LoopOK g w b l r) (hb' : ∀ o, ¬ M b o) (hw : ∀ o, g.wr b o → g'.wr b o) : LoopOK g' w' b l r :=
  { h with
    obj := by
      have hb : b < w.heap.size := (Array.getElem?_eq_some_iff.1 h.obj).1
      rw [t.obj b hb hb']; exact h.obj
    fr := h.fr.later (t.later hM)
    wr := hw _ h.wr }

theorem IterOK.later (t : Tr M g w g' w') {b : Nat} {i : IterA} {m : Option Nat} (h : IterOK g w b i m) (hb' : ∀ o, ¬ M b o) (hw : ∀ o, g.wr b o → g'.wr b o) : IterOK g' w' b i m where
  obj := by
    have hb : b < w.heap.size := (Array.getElem?_eq_some_iff.1 h.obj).1
    rw [t.obj b hb hb']; exact h.obj
  nil := h.nil
  map k hk := by
    obtain ⟨mb, h1, h2⟩ := h.map k hk
    exact ⟨mb, h1, t.hb _ _ h2⟩
  wr := hw _ h.wr

/-- One box, or one map, is another; all else is as it was. -/
theorem SS.replace (s : SS g w ow σ) (hown : OW g ow) {b : Nat} (hbox : g.isBox b) (t : Tr M g w g' w') (hM : ∀ b' o, M b' o → b' = b ∧ g.wr b' o) (hlt : ∀ b o, g'.wr b o → b < w'.heap.size) (hsb : g'.sb = g.sb) (hhb : g'.hb = g.hb)
    (hw : ∀ b' o, b' ≠ b → g.isBox b' → g.wr b' o → g'.wr b' o)
    (hls : σ'.stk.length = σ.stk.length) (hlh : σ'.heap.length = σ.heap.length)
    (stk : ∀ (n : Nat) (cs : List AV), σ'.stk[n]? = some cs → g.sb[n]? = some b → AV.under.go n cs = true ∧ ∃ xs E fz, BoxOK g' w' (fun i => ow' (.stk n i)) b cs xs E fz)
    (heap : ∀ (n : Nat) (cs : List AV), σ'.heap[n]? = some (.cells cs) → g.hb[n]? = some b → AV.under.go 0 cs = true ∧ ∃ xs E fz, BoxOK g' w' (fun i => ow' (.heap n i)) b cs xs E fz)
    (maps : ∀ (n : Nat) (es : List Entry) (c : Nat), σ'.heap[n]? = some (.map es c) → g.hb[n]? = some b → ∃ xs, MapOK g' w' b es c xs)
    (loops : ∀ (n : Nat) (l : LoopA), σ'.heap[n]? = some (.loop l) → g.hb[n]? = some b → ∃ r, LoopOK g' w' b l r)
    (iters : ∀ (n : Nat) (l : IterA), σ'.heap[n]? = some (.iter l) → g.hb[n]? = some b → ∃ r, IterOK g' w' b l r)
    (stk' : ∀ (n : Nat), g.sb[n]? ≠ some b → σ'.stk[n]? = σ.stk[n]?) (heap' : ∀ (n : Nat), g.hb[n]? ≠ some b → σ'.heap[n]? = σ.heap[n]?)
    (ho : ∀ (n i b' x : Nat), g.sb[n]? ≠ some b → ow (.stk n i) b' x → ow' (.stk n i) b' x) (ho' : ∀ (n i b' x : Nat), g.hb[n]? ≠ some b → ow (.heap n i) b' x → ow' (.heap n i) b' x) : SS g' w' ow' σ' where
  slen := by rw [hsb, hls]; exact s.slen
  hlen := by rw [hhb, hlh]; exact s.hlen
  nodup := by rw [hsb, hhb]; exact s.nodup
  lt := hlt
  stk n cs hn := by
    by_cases e : g.sb[n]? = some b
    · obtain ⟨h0, xs, E, fz, h1⟩ := stk n cs hn e
      exact ⟨h0, b, xs, E, fz, by rw [hsb]; exact e, h1⟩
    · rw [stk' n e] at hn
      obtain ⟨h0, b', xs, E, fz, h1, h2⟩ := s.stk n cs hn
      have hne : b' ≠ b := fun h => e (h ▸ h1)
      refine ⟨h0, b', xs, E, fz, by rw [hsb]; exact h1, h2.later t (fun _ _ h => (hM _ _ h).2) (fun o h => hne (hM _ _ h).1) (fun i b'' x h hMx => ?_) (fun i b'' x h => ho n i b'' x e h) fun o => hw b' o hne (.inl (List.mem_of_getElem? h1))⟩
      exact hown.box _ _ _ h ((hM _ _ hMx).1 ▸ hbox)
  heap n cs hn := by
    by_cases e : g.hb[n]? = some b
    · obtain ⟨h0, xs, E, fz, h1⟩ := heap n cs hn e
      exact ⟨h0, b, xs, E, fz, by rw [hhb]; exact e, h1⟩
    · rw [heap' n e] at hn
      obtain ⟨h0, b', xs, E, fz, h1, h2⟩ := s.heap n cs hn
      have hne : b' ≠ b := fun h => e (h ▸ h1)
      refine ⟨h0, b', xs, E, fz, by rw [hhb]; exact h1, h2.later t (fun _ _ h => (hM _ _ h).2) (fun o h => hne (hM _ _ h).1) (fun i b'' x h hMx => ?_) (fun i b'' x h => ho' n i b'' x e h) fun o => hw b' o hne (.inr (List.mem_of_getElem? h1))⟩
      exact hown.box _ _ _ h ((hM _ _ hMx).1 ▸ hbox)
  maps n es c hn := by
    by_cases e : g.hb[n]? = some b
    · obtain ⟨xs, h1⟩ := maps n es c hn e
      exact ⟨b, xs, by rw [hhb]; exact e, h1⟩
    · rw [heap' n e] at hn
      obtain ⟨b', xs, h1, h2⟩ := s.maps n es c hn
      have hne : b' ≠ b := fun h => e (h ▸ h1)
      exact ⟨b', xs, by rw [hhb]; exact h1, h2.later t (fun _ _ h => (hM _ _ h).2) (fun o h => hne (hM _ _ h).1) fun o => hw b' o hne (.inr (List.mem_of_getElem? h1))⟩
  loops n l hn := by
    by_cases e : g.hb[n]? = some b
    · obtain ⟨r, h1⟩ := loops n l hn e
      exact ⟨b, r, by rw [hhb]; exact e, h1⟩
    · rw [heap' n e] at hn
      obtain ⟨b', r, h1, h2⟩ := s.loops n l hn
      have hne : b' ≠ b := fun h => e (h ▸ h1)
      exact ⟨b', r, by rw [hhb]; exact h1, h2.later t (fun _ _ h => (hM _ _ h).2) (fun o h => hne (hM _ _ h).1) fun o => hw b' o hne (.inr (List.mem_of_getElem? h1))⟩
  iters n l hn := by
    by_cases e : g.hb[n]? = some b
    · obtain ⟨r, h1⟩ := iters n l hn e
      exact ⟨b, r, by rw [hhb]; exact e, h1⟩
    · rw [heap' n e] at hn
      obtain ⟨b', r, h1, h2⟩ := s.iters n l hn
      have hne : b' ≠ b := fun h => e (h ▸ h1)
      exact ⟨b', r, by rw [hhb]; exact h1, h2.later t (fun o h => hne (hM _ _ h).1) fun o => hw b' o hne (.inr (List.mem_of_getElem? h1))⟩
  dead n hn := by
    by_cases e : g.hb[n]? = some b
    · exact ⟨b, by rw [hhb]; exact e, t.lt (G.isBox_lt s hbox)⟩
    · rw [heap' n e] at hn
      obtain ⟨b', h1, h2⟩ := s.dead n hn
      exact ⟨b', by rw [hhb]; exact h1, t.lt h2⟩

/-- The same for a box that a reference names. -/
theorem SS.setBox (s : SS g w ow σ) (hown : OW g ow) {r : Ref} {b : Nat} {cs cs' : List AV} {xs' : Array Value} {E' : TypeId} {fz' : Nat × Nat} (hcs : boxOf σ r = some cs) (hr : g.ref r = some b) (t : Tr M g w g' w') (hM : ∀ b' o, M b' o → b' = b ∧ g.wr b' o) (hlt : ∀ b o, g'.wr b o → b < w'.heap.size) (hsb : g'.sb = g.sb) (hhb : g'.hb = g.hb)
    (hw : ∀ b' o, b' ≠ b → g.isBox b' → g.wr b' o → g'.wr b' o) (hu : AV.under.go r.level cs' = true)
    (hnew : BoxOK g' w' (fun i => ow' (r.pl i)) b cs' xs' E' fz')
    (ho : ∀ p b' x, (∀ i, p ≠ r.pl i) → (∀ i, p ≠ .slot i) → ow p b' x → ow' p b' x) : SS g' w' ow' (setBox σ r cs') := by
  obtain ⟨n1, n2, n3⟩ := nodup_ref s.nodup
  cases r with
  | stk m =>
    simp only [G.ref] at hr
    refine s.replace hown (.inl (List.mem_of_getElem? hr)) t hM hlt hsb hhb hw (by simp [AM.setBox]) (by simp [AM.setBox]) ?_ ?_ ?_ ?_ ?_ ?_ ?_ ?_ ?_
    · intro n c hn hb
      obtain rfl := n1 _ _ _ hb hr
      have hl : n < σ.stk.length := by rw [← s.slen]; exact (List.getElem?_eq_some_iff.1 hr).1
      simp only [AM.setBox] at hn
      rw [List.getElem?_set_self hl] at hn
      injection hn with hn; subst hn
      exact ⟨hu, _, _, _, hnew⟩
    · intro n c _ hb; exact (n3 _ _ _ hr hb).elim
    · intro n es c _ hb; exact (n3 _ _ _ hr hb).elim
    · intro n l _ hb; exact (n3 _ _ _ hr hb).elim
    · intro n l _ hb; exact (n3 _ _ _ hr hb).elim
    · intro n hne
      have e : m ≠ n := fun e => hne (e ▸ hr)
      simp only [AM.setBox]; rw [List.getElem?_set_ne e]
    · intro n _; rfl
    · intro n i b' x hne h
      refine ho _ _ _ (fun j => ?_) (fun j => by simp) h
      simp only [Ref.pl, ne_eq, Pl.stk.injEq, not_and]
      intro e; exact (hne (e ▸ hr)).elim
    · intro n i b' x _ h
      exact ho _ _ _ (fun j => by simp [Ref.pl]) (fun j => by simp) h
  | heap m =>
    simp only [G.ref] at hr
    refine s.replace hown (.inr (List.mem_of_getElem? hr)) t hM hlt hsb hhb hw (by simp [AM.setBox]) (by simp [AM.setBox]) ?_ ?_ ?_ ?_ ?_ ?_ ?_ ?_ ?_
    · intro n c _ hb; exact (n3 _ _ _ hb hr).elim
    · intro n c hn hb
      obtain rfl := n2 _ _ _ hb hr
      have hl : n < σ.heap.length := by rw [← s.hlen]; exact (List.getElem?_eq_some_iff.1 hr).1
      simp only [AM.setBox] at hn
      rw [List.getElem?_set_self hl] at hn
      simp at hn; subst hn
      exact ⟨hu, _, _, _, hnew⟩
    · intro n es c hn hb
      obtain rfl := n2 _ _ _ hb hr
      have hl : n < σ.heap.length := by rw [← s.hlen]; exact (List.getElem?_eq_some_iff.1 hr).1
      simp only [AM.setBox] at hn
      rw [List.getElem?_set_self hl] at hn
      simp at hn
    · intro n l hn hb
      obtain rfl := n2 _ _ _ hb hr
      have hl : n < σ.heap.length := by rw [← s.hlen]; exact (List.getElem?_eq_some_iff.1 hr).1
      simp only [AM.setBox] at hn
      rw [List.getElem?_set_self hl] at hn
      simp at hn
    · intro n l hn hb
      obtain rfl := n2 _ _ _ hb hr
      have hl : n < σ.heap.length := by rw [← s.hlen]; exact (List.getElem?_eq_some_iff.1 hr).1
      simp only [AM.setBox] at hn
      rw [List.getElem?_set_self hl] at hn
      simp at hn
    · intro n _; rfl
    · intro n hne
      have e : m ≠ n := fun e => hne (e ▸ hr)
      simp only [AM.setBox]; rw [List.getElem?_set_ne e]
    · intro n i b' x _ h
      exact ho _ _ _ (fun j => by simp [Ref.pl]) (fun j => by simp) h
    · intro n i b' x hne h
      refine ho _ _ _ (fun j => ?_) (fun j => by simp) h
      simp only [Ref.pl, ne_eq, Pl.heap.injEq, not_and]
      intro e; exact (hne (e ▸ hr)).elim
end
end Go.AM
/-! A new box; a store. -/
namespace Go.AM
open Go
set_option linter.unusedVariables false

theorem setCell_heap_ne (w : World) (b o : Nat) (v : Value) {b' : Nat} (h : b' ≠ b) : (w.setCell ⟨b, o, none⟩ v).heap[b']? = w.heap[b']? := by
  simp [World.setCell, Array.getElem?_modify, Ne.symm h]

theorem setCell_heap (w : World) (b o : Nat) (v : Value) {xs : Array Value} {E : TypeId} {fz : Nat × Nat} (h : w.heap[b]? = some (.cells xs E fz)) :
    (w.setCell ⟨b, o, none⟩ v).heap[b]? = some (.cells (xs.setIfInBounds o v) E fz) := by
  simp [World.setCell, Array.getElem?_modify, h]

theorem setCell_size (w : World) (a : Addr) (v : Value) : (w.setCell a v).heap.size = w.heap.size := by simp [World.setCell]

theorem setCells_ne (b : Nat) : ∀ (vs : List Value) (o : Nat) (w : World) {b' : Nat}, b' ≠ b → (w.setCells b o vs).heap[b']? = w.heap[b']?
  | [], _, _, _, _ => rfl
  | v :: r, o, w, b', h => by rw [World.setCells, setCells_ne b r (o + 1) _ h, setCell_heap_ne w b o v h]

theorem setCells_size (b : Nat) : ∀ (vs : List Value) (o : Nat) (w : World), (w.setCells b o vs).heap.size = w.heap.size
  | [], _, _ => rfl
  | v :: r, o, w => by rw [World.setCells, setCells_size b r (o + 1), setCell_size]

theorem setCells_heap (b : Nat) : ∀ (vs : List Value) (o : Nat) (w : World) {xs : Array Value} {E : TypeId} {fz : Nat × Nat}, w.heap[b]? = some (.cells xs E fz) → o + vs.length ≤ xs.size →
    ∃ xs', (w.setCells b o vs).heap[b]? = some (.cells xs' E fz) ∧ xs'.size = xs.size ∧ ∀ (i : Nat), xs'[i]? = if o ≤ i ∧ i < o + vs.length then vs[i - o]? else xs[i]?
  | [], o, w, xs, E, fz, h, _ => ⟨xs, h, rfl, fun i => by simp; intro h1 h2; omega⟩
  | v :: r, o, w, xs, E, fz, h, hl => by
    simp only [List.length_cons] at hl
    obtain ⟨xs', h1, h2, h3⟩ := setCells_heap b r (o + 1) (w.setCell ⟨b, o, none⟩ v) (setCell_heap w b o v h) (by simp; omega)
    refine ⟨xs', h1, by simpa using h2, fun i => ?_⟩
    rw [h3 i]
    by_cases e : i = o
    · subst e
      rw [if_neg (by omega), if_pos (by simp), Nat.sub_self, Array.getElem?_setIfInBounds_self_of_lt (by omega)]; rfl
    · by_cases h4 : o + 1 ≤ i ∧ i < o + 1 + r.length
      · rw [if_pos h4, if_pos (by simp only [List.length_cons]; omega), show i - o = (i - (o + 1)) + 1 by omega, List.getElem?_cons_succ]
      · rw [if_neg h4, if_neg (by simp only [List.length_cons]; omega), Array.getElem?_setIfInBounds_ne (Ne.symm e)]

theorem setCells_env (b : Nat) : ∀ (vs : List Value) (o : Nat) (w : World), SameEnv w (w.setCells b o vs)
  | [], o, w => ⟨rfl, rfl, rfl⟩
  | v :: vs, o, w => by
    have := setCells_env b vs (o + 1) (w.setCell ⟨b, o, none⟩ v)
    exact ⟨this.1, this.2.1, this.2.2⟩

theorem splice_get (cs : List AV) (off : Nat) (vs : List AV) (h : off + vs.length ≤ cs.length) (i : Nat) : (splice cs off vs)[i]? = if off ≤ i ∧ i < off + vs.length then vs[i - off]? else cs[i]? := by
  have gen : (cs.take off ++ vs ++ cs.drop (off + vs.length))[i]? = if off ≤ i ∧ i < off + vs.length then vs[i - off]? else cs[i]? := by
    have ht : (cs.take off).length = off := by rw [List.length_take]; omega
    rw [List.append_assoc]
    by_cases h1 : i < off
    · rw [List.getElem?_append_left (by omega), if_neg (by omega), List.getElem?_take_of_lt h1]
    · rw [List.getElem?_append_right (by omega), ht]
      by_cases h2 : i < off + vs.length
      · rw [if_pos (by omega), List.getElem?_append_left (by omega)]
      · rw [if_neg (by omega), List.getElem?_append_right (by omega), List.getElem?_drop]
        congr 1; omega
  unfold splice
  split
  · rename_i v
    simp only [List.length_singleton] at h ⊢
    by_cases e : i = off
    · subst e; rw [List.getElem?_set_self (by omega), if_pos (by omega)]; simp
    · rw [List.getElem?_set_ne (Ne.symm e), if_neg (by omega)]
  · exact gen

theorem splice_length (cs : List AV) (off : Nat) (vs : List AV) (h : off + vs.length ≤ cs.length) : (splice cs off vs).length = cs.length := by
  unfold splice
  split
  · simp
  · simp; omega

theorem under_splice {n : Nat} {cs vs : List AV} {off : Nat} (h : off + vs.length ≤ cs.length) (h1 : AV.under.go n cs = true) (h2 : AV.under.go n vs = true) : AV.under.go n (splice cs off vs) = true := by
  rw [under_mem] at *
  intro a ha
  obtain ⟨i, hi⟩ := List.getElem?_of_mem ha
  rw [splice_get _ _ _ h] at hi
  split at hi
  · exact h2 a (List.mem_of_getElem? hi)
  · exact h1 a (List.mem_of_getElem? hi)

section
variable {g g' g'' : G} {w w' w'' : World} {ow ow' : Own} {M M' : Nat → Nat → Prop} {σ σ' : St} {fr : Fr} {tm : Array Value}

/-- What cells hold: the first of them may own. -/
def Cells (g : G) (w : World) (ro : Nat → Nat → Prop) (cs : List AV) (vs : List Value) : Prop :=
  vs.length = cs.length ∧ ∀ (i : Nat) (a : AV), cs[i]? = some a → ∃ v, vs[i]? = some v ∧ PV g w (if i = 0 then ro else Nobody) a v ∧ a.isCell = true

theorem Cells.one {ro : Nat → Nat → Prop} {x : AV} {v : Value} (h : PV g w ro x v) (hc : x.isCell = true) : Cells g w ro [x] [v] := by
  refine ⟨rfl, fun i a hi => ?_⟩
  cases i with
  | zero => simp at hi; subst hi; exact ⟨v, rfl, by simpa using h, hc⟩
  | succ i => simp at hi

theorem Cells.of {ro : Nat → Nat → Prop} {cs : List AV} {vs : List Value} (h : VL g w cs vs) (hc : ∀ c ∈ cs, c.isCell = true) : Cells g w ro cs vs :=
  ⟨h.length, fun i a hi => by
    obtain ⟨v, h1, h2⟩ := h.get hi
    exact ⟨v, h1, PV.of h2, hc a (List.mem_of_getElem? hi)⟩⟩

theorem Tr.setCells {b off : Nat} {vs : List Value} (hc : ∀ j, j < vs.length → (w.cell? ⟨b, off + j, none⟩).isSome = true) (hf : ∀ j, j < vs.length → w.frozen? ⟨b, off + j, none⟩ = false) :
    Tr (fun b' o => b' = b ∧ off ≤ o ∧ o < off + vs.length) g w g (w.setCells b off vs) where
  env := setCells_env _ _ _ _
  size := by rw [setCells_size]; exact Nat.le_refl _
  obj b' hb' hm := by
    by_cases e : b' = b
    · subst e
      cases vs with
      | nil => rfl
      | cons v r => exact (hm off ⟨rfl, Nat.le_refl _, by simp⟩).elim
    · rw [setCells_ne _ _ _ _ e]
  cell b' o _ hm := World.cell?_setCells_out b vs off w _ fun h1 _ => by
    dsimp only at h1
    by_cases h2 : o < off
    · exact .inl h2
    · exact .inr (Nat.le_of_not_lt fun h3 => hm ⟨h1, Nat.le_of_not_lt h2, h3⟩)
  live b' o v hv := by
    by_cases h : b' = b ∧ off ≤ o ∧ o < off + vs.length
    · obtain ⟨rfl, h1, h2⟩ := h
      have := World.cell?_setCells_in b' vs off w hc (o - off) (by omega)
      rw [show off + (o - off) = o by omega] at this
      exact ⟨_, this⟩
    · refine ⟨v, ?_⟩
      rw [World.cell?_setCells_out b vs off w _ fun h1 _ => ?_]
      · exact hv
      · dsimp only at h1
        by_cases h2 : o < off
        · exact .inl h2
        · exact .inr (Nat.le_of_not_lt fun h3 => h ⟨h1, Nat.le_of_not_lt h2, h3⟩)
  froz b' o _ := World.frozen?_setCells b vs off w _
  wr _ _ h := .inl h
  sb _ _ h := h
  hb _ _ h := h

theorem BoxOK.cell {o : Nat → Nat → Nat → Prop} {b : Nat} {cs : List AV} {xs : Array Value} {E : TypeId} {fz : Nat × Nat} (h : BoxOK g w o b cs xs E fz) {i : Nat} (hi : i < cs.length) : (w.cell? ⟨b, i, none⟩).isSome = true ∧ w.frozen? ⟨b, i, none⟩ = false := by
  have hx : i < xs.size := Nat.lt_of_lt_of_le hi h.le
  refine ⟨by simp [World.cell?, h.obj, hx], ?_⟩
  have := (h.wr i hi).2
  simp only [World.frozen?, h.obj]
  simpa using this

theorem BoxOK.read {o : Nat → Nat → Nat → Prop} {b : Nat} {cs : List AV} {xs : Array Value} {E : TypeId} {fz : Nat × Nat} (h : BoxOK g w o b cs xs E fz) {i : Nat} {a : AV} (hi : cs[i]? = some a) : ∃ v, w.cell? ⟨b, i, none⟩ = some v ∧ PV g w (o i) a v ∧ a.isCell = true := by
  obtain ⟨v, h1, h2⟩ := h.val i a hi
  exact ⟨v, by simp [World.cell?, h.obj, h1], h2⟩

/-- A store into a box. -/
theorem Rel.write (r : Rel g w ow fr tm σ) {rf : Ref} {off b : Nat} {vs : List AV} {vals : List Value} {ro : Nat → Nat → Prop} (h : writeCells σ rf off vs = some σ') (hb : g.ref rf = some b) (hv : Cells g w ro vs vals) (f : Free g ow ro) :
    (∀ j, j < vals.length → (w.cell? ⟨b, off + j, none⟩).isSome = true) ∧ (∀ j, j < vals.length → w.frozen? ⟨b, off + j, none⟩ = false) ∧
    ∃ ow', Rel g (w.setCells b off vals) ow' fr tm σ' ∧ Tr (May g ow) g w g (w.setCells b off vals) ∧ (∀ p b o, ow' p b o → ow p b o ∨ ro b o) ∧ (∀ i, ow' (.slot i) = ow (.slot i)) := by
  unfold writeCells at h
  cases hcs : boxOf σ rf with
  | none => simp [hcs] at h
  | some cs =>
    simp only [hcs, Option.bind_some, Bool.and_eq_true, decide_eq_true_eq] at h
    split at h
    case isFalse => cases h
    rename_i hcond
    obtain ⟨hle, hmay⟩ := hcond
    injection h with h; subst h
    obtain ⟨hu, b', xs, E, fz, hr, hbox⟩ := r.ss.box hcs
    rw [hb] at hr; injection hr with hr; subst hr
    have hvl : vals.length = vs.length := hv.1
    have hc : ∀ j, j < vals.length → (w.cell? ⟨b, off + j, none⟩).isSome = true := fun j hj => (hbox.cell (by omega)).1
    have hf : ∀ j, j < vals.length → w.frozen? ⟨b, off + j, none⟩ = false := fun j hj => (hbox.cell (by omega)).2
    have hisb : g.isBox b := G.ref_isBox hb
    have t := Tr.setCells (g := g) hc hf
    have hMw : ∀ b' o, (b' = b ∧ off ≤ o ∧ o < off + vals.length) → b' = b ∧ g.wr b' o := fun b' o h => by
      obtain ⟨rfl, h1, h2⟩ := h
      exact ⟨rfl, (hbox.wr o (by omega)).1⟩
    have hMown : ∀ p b' o, ow p b' o → ¬ (b' = b ∧ off ≤ o ∧ o < off + vals.length) := fun p b' o ho h => r.own.box _ _ _ ho (h.1 ▸ hisb)
    by_cases hnil : vs = []
    · subst hnil
      have hv0 : vals = [] := List.length_eq_zero_iff.1 (by simpa using hvl)
      subst hv0
      have he : setBox σ rf (splice cs off []) = σ := by
        have h0 : splice cs off [] = cs := by simp [splice]
        rw [h0]
        cases rf with
        | stk n =>
          simp only [boxOf] at hcs
          obtain ⟨hl, rfl⟩ := List.getElem?_eq_some_iff.1 hcs
          simp [setBox]
        | heap n =>
          simp only [boxOf] at hcs
          split at hcs
          · rename_i cs' hn
            injection hcs with hcs; subst hcs
            obtain ⟨hl, hn⟩ := List.getElem?_eq_some_iff.1 hn
            simp [setBox, ← hn]
          · cases hcs
      rw [he]
      exact ⟨hc, hf, ow, r, Tr.refl _ _ _, fun _ _ _ h => .inl h, fun _ => rfl⟩
    refine ⟨hc, hf, ow.set (rf.pl off) ro, ⟨?_, r.own.set f, ?_⟩, ?_, ?_, ?_⟩
    · obtain ⟨xs', h1, h2, h3⟩ := setCells_heap b vals off w hbox.obj (by have := hbox.le; omega)
      refine r.ss.setBox (xs' := xs') (E' := E) (fz' := fz) r.own hcs hb t hMw (by rw [setCells_size]; exact r.ss.lt) rfl rfl (fun _ _ _ _ h => h) (under_splice hle hu (by cases rf <;> exact hmay)) ⟨h1, by rw [splice_length _ _ _ hle, h2]; exact hbox.le, ?_, ?_⟩ ?_
      · intro i a hi
        rw [splice_get _ _ _ hle] at hi
        rw [h3 i, hvl]
        by_cases hin : off ≤ i ∧ i < off + vs.length
        · rw [if_pos hin] at hi ⊢
          obtain ⟨v, hv1, hv2, hv3⟩ := hv.2 _ _ hi
          refine ⟨v, hv1, ?_, hv3⟩
          have hv2' := hv2.later t (fun b' o h => (hMw b' o h).2) (fun b' o h hm => by
            split at h
            · exact f.box _ _ h (hm.1 ▸ hisb)
            · exact h)
          refine hv2'.move fun b' o h => ?_
          split at h
          · rename_i h0
            rw [show i = off by omega, Own.set_same]; exact h
          · exact h.elim
        · rw [if_neg hin] at hi ⊢
          obtain ⟨v, hv1, hv2, hv3⟩ := hbox.val i a hi
          refine ⟨v, hv1, ?_, hv3⟩
          by_cases e : i = off
          · have : 0 < vs.length := List.length_pos_iff.2 hnil
            exact (hin (by omega)).elim
          · have hv2' := hv2.later t (fun b' o h => (hMw b' o h).2) (fun b' o h hm => hMown _ _ _ h hm)
            exact hv2'.move fun b' o h => by rw [Own.set_other _ _ (by cases rf <;> simp [Ref.pl, e])]; exact h
      · intro i hi
        rw [splice_length _ _ _ hle] at hi
        exact hbox.wr i hi
      · intro p b' x hp _ h
        rw [Own.set_other _ _ (hp off)]; exact h
    · refine r.sf.later t (fun b' o h => (hMw b' o h).2) (fun i b' o h => hMown _ _ _ h) fun i b' o h => ?_
      rw [Own.set_other _ _ (by cases rf <;> simp [Ref.pl])]; exact h
    · exact t.weaken fun b' o h => .inl ⟨(hMw _ _ h).1 ▸ hisb, (hMw _ _ h).2⟩
    · intro p b' o h
      by_cases e : p = rf.pl off
      · rw [e, Own.set_same] at h; exact .inr h
      · rw [Own.set_other _ _ e] at h; exact .inl h
    · intro i; exact Own.set_other _ _ (by cases rf <;> simp [Ref.pl])

/-- A new box. -/
theorem Rel.newBox (r : Rel g w ow fr tm σ) {hp : Bool} {rf : Ref} {cs : List AV} {vals : Array Value} {E : TypeId} {ro : Nat → Nat → Prop} (h : AM.newBox hp cs σ = some (rf, σ')) (hv : Cells g w ro cs vals.toList) (f : Free g ow ro)
    (hw : w'.heap = w.heap.push (.cells vals E)) (henv : SameEnv w w' := by exact ⟨rfl, rfl, rfl⟩) :
    ∃ g' ow', Rel g' w' ow' fr tm σ' ∧ g'.ref rf = some w.heap.size ∧ Tr Nought g w g' w' ∧ (∀ p b o, ow' p b o → ow p b o ∨ ro b o) ∧ (∀ i, ow' (.slot i) = ow (.slot i)) ∧ (∀ b, g'.isBox b → g.isBox b ∨ b = w.heap.size) ∧ (∀ b o, g.wr b o → g'.wr b o) ∧ (∀ b, b ∈ g'.hb → b ∈ g.hb ∨ b = w.heap.size) := by
  have hlt : ∀ {b : Nat}, g.isBox b → b ≠ w.heap.size := fun hb e => by have := G.isBox_lt r.ss hb; omega
  have hnew : w'.heap[w.heap.size]? = some (.cells vals E (0, 0)) := by rw [hw]; simp
  have hcl : ∀ {p : Pl} {b o : Nat}, ow p b o → ∀ {v : Value}, w.cell? ⟨b, o, none⟩ = some v → b ≠ w.heap.size := fun _ _ hc e => by have := cell_lt hc; omega
  unfold AM.newBox at h
  cases hp with
  | false =>
    simp only [Bool.false_eq_true, if_false] at h
    split at h
    case isFalse => cases h
    rename_i hu
    simp only [Option.some.injEq, Prod.mk.injEq] at h
    obtain ⟨rfl, rfl⟩ := h
    let g' : G := ⟨g.sb ++ [w.heap.size], g.hb, fun b o => g.wr b o ∨ b = w.heap.size ∧ o < cs.length⟩
    have t : Tr Nought g w g' w' := Tr.new hw (X := fun o => o < cs.length) (fun n b hn => by rw [List.getElem?_append_left (List.getElem?_eq_some_iff.1 hn).1]; exact hn) (fun _ _ h => h) henv
    have hib : ∀ b, g'.isBox b → g.isBox b ∨ b = w.heap.size := fun b hb => by
      rcases hb with hb | hb
      · rcases List.mem_append.1 hb with hb | hb
        · exact .inl (.inl hb)
        · exact .inr (by simpa using hb)
      · exact .inl (.inr hb)
    have hown : ∀ p b o, ow p b o → b < w.heap.size := fun p b o h => r.ss.lt _ _ (r.own.wr _ _ _ h)
    have hro : ∀ b o, ro b o → b < w.heap.size := fun b o h => r.ss.lt _ _ (f.wr _ _ h)
    have s' : SS g' w' (ow.set (.stk σ.stk.length 0) ro) { σ with stk := σ.stk ++ [cs] } := {
      slen := by simp [g', r.ss.slen]
      hlen := r.ss.hlen
      nodup := by
        have h0 := r.ss.nodup
        have hn : w.heap.size ∉ g.sb ++ g.hb := fun hm => hlt (List.mem_append.1 hm) rfl
        show (g.sb ++ [w.heap.size] ++ g.hb).Nodup
        rw [List.append_assoc]
        exact (List.Perm.nodup_iff (List.perm_middle (l₁ := g.sb) (l₂ := g.hb) (a := w.heap.size))).2 (List.nodup_cons.2 ⟨hn, h0⟩)
      lt := fun b o h => by
        rcases h with h | h
        · exact t.lt (r.ss.lt _ _ h)
        · rw [hw, h.1]; simp
      stk := fun n c hn => by
        by_cases e : n < σ.stk.length
        · rw [List.getElem?_append_left e] at hn
          obtain ⟨h0, b, xs, E, fz, h1, h2⟩ := r.ss.stk n c hn
          refine ⟨h0, b, xs, E, fz, t.sb _ _ h1, h2.still t (fun i b x h => ?_) fun o h => .inl h⟩
          rw [Own.set_other _ _ (by simp; omega)]; exact h
        · have e' : n = σ.stk.length := by
            have := (List.getElem?_eq_some_iff.1 hn).1
            simp at this; omega
          subst e'
          rw [List.getElem?_append_right (Nat.le_refl _)] at hn
          simp at hn; subst hn
          refine ⟨hu, w.heap.size, vals, E, (0, 0), by simp [g', ← r.ss.slen], hnew, ?_, fun i a hi => ?_, fun i hi => ⟨.inr ⟨rfl, hi⟩, by simp⟩⟩
          · rw [← hv.1]; simp
          · obtain ⟨v, h1, h2, h3⟩ := hv.2 i a hi
            refine ⟨v, by simpa using h1, (h2.later t (fun _ _ h => h.elim) (fun _ _ _ h => h)).move fun b x h => ?_, h3⟩
            split at h
            · rename_i h0; subst h0; rw [Own.set_same]; exact h
            · exact h.elim
      heap := fun n c hn => by
        obtain ⟨h0, b, xs, E, fz, h1, h2⟩ := r.ss.heap n c hn
        refine ⟨h0, b, xs, E, fz, h1, h2.still t (fun i b x h => ?_) fun o h => .inl h⟩
        rw [Own.set_other _ _ (by simp)]; exact h
      maps := fun n es c hn => by
        obtain ⟨b, xs, h1, h2⟩ := r.ss.maps n es c hn
        exact ⟨b, xs, h1, h2.still t fun o h => .inl h⟩
      loops := fun n l hn => by
        obtain ⟨b, q, h1, h2⟩ := r.ss.loops n l hn
        exact ⟨b, q, h1, h2.still t fun o h => .inl h⟩
      iters := fun n l hn => by
        obtain ⟨b, q, h1, h2⟩ := r.ss.iters n l hn
        exact ⟨b, q, h1, h2.still t fun o h => .inl h⟩
      dead := fun n hn => by
        obtain ⟨b, h1, h2⟩ := r.ss.dead n hn
        exact ⟨b, h1, t.lt h2⟩ }
    refine ⟨g', ow.set (.stk σ.stk.length 0) ro, ⟨s', ?_, ?_⟩, by simp [G.ref, g', ← r.ss.slen], t, ?_, fun i => Own.set_other _ _ (by simp), hib, fun _ _ h => .inl h, fun _ h => .inl h⟩
    · have f' : Free g' ow ro := ⟨fun b o h => .inl (f.wr _ _ h), fun b o h hb => (hib b hb).elim (f.box _ _ h) fun e => by have := hro _ _ h; omega, f.apart⟩
      have o' : OW g' ow := ⟨fun p b o h => .inl (r.own.wr _ _ _ h), fun p b o h hb => (hib b hb).elim (r.own.box _ _ _ h) fun e => by have := hown _ _ _ h; omega, r.own.one⟩
      exact o'.set f'
    · exact r.sf.later t (fun _ _ h => h.elim) (fun _ _ _ _ h => h) fun i b x h => by rw [Own.set_other _ _ (by simp)]; exact h
    · intro p b o h
      by_cases e : p = .stk σ.stk.length 0
      · rw [e, Own.set_same] at h; exact .inr h
      · rw [Own.set_other _ _ e] at h; exact .inl h
  | true =>
    simp only [if_true] at h
    split at h
    case isFalse => cases h
    rename_i hu
    simp only [Option.some.injEq, Prod.mk.injEq] at h
    obtain ⟨rfl, rfl⟩ := h
    let g' : G := ⟨g.sb, g.hb ++ [w.heap.size], fun b o => g.wr b o ∨ b = w.heap.size ∧ o < cs.length⟩
    have t : Tr Nought g w g' w' := Tr.new hw (X := fun o => o < cs.length) (fun _ _ h => h) (fun n b hn => by rw [List.getElem?_append_left (List.getElem?_eq_some_iff.1 hn).1]; exact hn) henv
    have hib : ∀ b, g'.isBox b → g.isBox b ∨ b = w.heap.size := fun b hb => by
      rcases hb with hb | hb
      · exact .inl (.inl hb)
      · rcases List.mem_append.1 hb with hb | hb
        · exact .inl (.inr hb)
        · exact .inr (by simpa using hb)
    have hown : ∀ p b o, ow p b o → b < w.heap.size := fun p b o h => r.ss.lt _ _ (r.own.wr _ _ _ h)
    have hro : ∀ b o, ro b o → b < w.heap.size := fun b o h => r.ss.lt _ _ (f.wr _ _ h)
    have s' : SS g' w' (ow.set (.heap σ.heap.length 0) ro) { σ with heap := σ.heap ++ [.cells cs] } := {
      slen := r.ss.slen
      hlen := by simp [g', r.ss.hlen]
      nodup := by
        have h0 := r.ss.nodup
        have hn : w.heap.size ∉ g.sb ++ g.hb := fun hm => hlt (List.mem_append.1 hm) rfl
        show (g.sb ++ (g.hb ++ [w.heap.size])).Nodup
        rw [← List.append_assoc, (List.perm_append_singleton _ _).nodup_iff]
        exact List.nodup_cons.2 ⟨hn, h0⟩
      lt := fun b o h => by
        rcases h with h | h
        · exact t.lt (r.ss.lt _ _ h)
        · rw [hw, h.1]; simp
      stk := fun n c hn => by
        obtain ⟨h0, b, xs, E, fz, h1, h2⟩ := r.ss.stk n c hn
        refine ⟨h0, b, xs, E, fz, h1, h2.still t (fun i b x h => ?_) fun o h => .inl h⟩
        rw [Own.set_other _ _ (by simp)]; exact h
      heap := fun n c hn => by
        by_cases e : n < σ.heap.length
        · rw [List.getElem?_append_left e] at hn
          obtain ⟨h0, b, xs, E, fz, h1, h2⟩ := r.ss.heap n c hn
          refine ⟨h0, b, xs, E, fz, t.hb _ _ h1, h2.still t (fun i b x h => ?_) fun o h => .inl h⟩
          rw [Own.set_other _ _ (by simp; omega)]; exact h
        · have e' : n = σ.heap.length := by
            have := (List.getElem?_eq_some_iff.1 hn).1
            simp at this; omega
          subst e'
          rw [List.getElem?_append_right (Nat.le_refl _)] at hn
          simp at hn; subst hn
          refine ⟨hu, w.heap.size, vals, E, (0, 0), by simp [g', ← r.ss.hlen], hnew, ?_, fun i a hi => ?_, fun i hi => ⟨.inr ⟨rfl, hi⟩, by simp⟩⟩
          · rw [← hv.1]; simp
          · obtain ⟨v, h1, h2, h3⟩ := hv.2 i a hi
            refine ⟨v, by simpa using h1, (h2.later t (fun _ _ h => h.elim) (fun _ _ _ h => h)).move fun b x h => ?_, h3⟩
            split at h
            · rename_i h0; subst h0; rw [Own.set_same]; exact h
            · exact h.elim
      maps := fun n es c hn => by
        by_cases e : n < σ.heap.length
        · rw [List.getElem?_append_left e] at hn
          obtain ⟨b, xs, h1, h2⟩ := r.ss.maps n es c hn
          exact ⟨b, xs, t.hb _ _ h1, h2.still t fun o h => .inl h⟩
        · have e' : n = σ.heap.length := by
            have := (List.getElem?_eq_some_iff.1 hn).1
            simp at this; omega
          subst e'
          rw [List.getElem?_append_right (Nat.le_refl _)] at hn
          simp at hn
      loops := fun n l hn => by
        by_cases e : n < σ.heap.length
        · rw [List.getElem?_append_left e] at hn
          obtain ⟨b, q, h1, h2⟩ := r.ss.loops n l hn
          exact ⟨b, q, t.hb _ _ h1, h2.still t fun o h => .inl h⟩
        · have e' : n = σ.heap.length := by
            have := (List.getElem?_eq_some_iff.1 hn).1
            simp at this; omega
          subst e'
          rw [List.getElem?_append_right (Nat.le_refl _)] at hn
          simp at hn
      iters := fun n l hn => by
        by_cases e : n < σ.heap.length
        · rw [List.getElem?_append_left e] at hn
          obtain ⟨b, q, h1, h2⟩ := r.ss.iters n l hn
          exact ⟨b, q, t.hb _ _ h1, h2.still t fun o h => .inl h⟩
        · have e' : n = σ.heap.length := by
            have := (List.getElem?_eq_some_iff.1 hn).1
            simp at this; omega
          subst e'
          rw [List.getElem?_append_right (Nat.le_refl _)] at hn
          simp at hn
      dead := fun n hn => by
        by_cases e : n < σ.heap.length
        · rw [List.getElem?_append_left e] at hn
          obtain ⟨b, h1, h2⟩ := r.ss.dead n hn
          exact ⟨b, t.hb _ _ h1, t.lt h2⟩
        · have e' : n = σ.heap.length := by
            have := (List.getElem?_eq_some_iff.1 hn).1
            simp at this; omega
          subst e'
          rw [List.getElem?_append_right (Nat.le_refl _)] at hn
          simp at hn }
    refine ⟨g', ow.set (.heap σ.heap.length 0) ro, ⟨s', ?_, ?_⟩, by simp [G.ref, g', ← r.ss.hlen], t, ?_, fun i => Own.set_other _ _ (by simp), hib, fun _ _ h => .inl h, fun b h => (List.mem_append.1 h).imp id fun h => List.mem_singleton.1 h⟩
    · have f' : Free g' ow ro := ⟨fun b o h => .inl (f.wr _ _ h), fun b o h hb => (hib b hb).elim (f.box _ _ h) fun e => by have := hro _ _ h; omega, f.apart⟩
      have o' : OW g' ow := ⟨fun p b o h => .inl (r.own.wr _ _ _ h), fun p b o h hb => (hib b hb).elim (r.own.box _ _ _ h) fun e => by have := hown _ _ _ h; omega, r.own.one⟩
      exact o'.set f'
    · exact r.sf.later t (fun _ _ h => h.elim) (fun _ _ _ _ h => h) fun i b x h => by rw [Own.set_other _ _ (by simp)]; exact h
    · intro p b o h
      by_cases e : p = .heap σ.heap.length 0
      · rw [e, Own.set_same] at h; exact .inr h
      · rw [Own.set_other _ _ e] at h; exact .inl h
end
end Go.AM
/-! Lists: made anew, grown in place, shared. -/
namespace Go.AM
open Go
set_option linter.unusedVariables false

section
variable {g g' g'' : G} {w w' w'' : World} {ow ow' : Own} {M M' : Nat → Nat → Prop} {σ σ' : St} {fr : Fr} {tm : Array Value}

abbrev G.less (g : G) (X : Nat → Nat → Prop) : G := { g with wr := fun b o => g.wr b o ∧ ¬ X b o }

theorem Tr.less (X : Nat → Nat → Prop) : Tr M g w (g.less X) w :=
  ⟨Nat.le_refl _, fun _ _ _ => rfl, fun _ _ _ _ => rfl, fun _ _ v h => ⟨v, h⟩, fun _ _ _ => rfl, fun _ _ h => .inl h.1, fun _ _ h => h, fun _ _ h => h, ⟨rfl, rfl, rfl⟩⟩

theorem Rel.less (r : Rel g w ow fr tm σ) {X : Nat → Nat → Prop} (hb : ∀ b o, X b o → ¬ g.isBox b) (ho : ∀ p b o, ow p b o → ¬ X b o) : Rel (g.less X) w ow fr tm σ where
  ss := r.ss.still (Tr.less X) (fun b o h => r.ss.lt b o h.1) rfl rfl (fun b o h1 h2 => ⟨h2, fun h => hb _ _ h h1⟩) (fun _ _ _ _ h => h) (fun _ _ _ _ h => h)
  own := ⟨fun p b o h => ⟨r.own.wr _ _ _ h, ho _ _ _ h⟩, r.own.box, r.own.one⟩
  sf := r.sf.later (Tr.less (M := Nought) X) (fun _ _ h => h.elim) (fun _ _ _ _ h => h) (fun _ _ _ h => h)

theorem Free.less {ro ro' : Nat → Nat → Prop} {X : Nat → Nat → Prop} (f : Free g ow ro) (h : ∀ b o, ro' b o → ro b o ∧ ¬ X b o) : Free (g.less X) ow ro' :=
  ⟨fun b o hr => ⟨f.wr _ _ (h _ _ hr).1, (h _ _ hr).2⟩, fun b o hr => f.box _ _ (h _ _ hr).1, fun p b o hp hr => f.apart p b o hp (h _ _ hr).1⟩

theorem May.less {X : Nat → Nat → Prop} {b o : Nat} (h : May (g.less X) ow b o) : May g ow b o := by
  rcases h with ⟨h1, h2⟩ | h
  · exact .inl ⟨h1, h2.1⟩
  · exact .inr h

/-- A list that nobody else sees becomes one that others may share. -/
theorem Uniq.calm (r : Rel g w ow fr tm σ) {ro : Nat → Nat → Prop} {sz : Nat} {es : List AV} {v : Value} (h : PV g w ro (.list .uniq sz es) v) (f : Free g ow ro) :
    ∃ X ro', Rel (g.less X) w ow fr tm σ ∧ PV (g.less X) w ro' (.list .own sz es) v ∧ Free (g.less X) ow ro' ∧ (∀ b o, ro' b o → ro b o) ∧ (∀ b o, X b o → ro b o) := by
  obtain ⟨a, cap, xs, u⟩ := h
  let X : Nat → Nat → Prop := fun b o => b = a.block ∧ a.off ≤ o ∧ o < a.off + es.length * sz
  have hX : ∀ b o, X b o → ro b o := fun b o h => by
    obtain ⟨rfl, h1, h2⟩ := h
    have := (u.spare (o - a.off) (Nat.zero_le _) (Nat.lt_of_lt_of_le (by omega) (Nat.mul_le_mul_right sz u.le))).1
    rwa [show a.off + (o - a.off) = o by omega] at this
  let ro' : Nat → Nat → Prop := fun b o => ro b o ∧ ¬ X b o
  refine ⟨X, ro', r.less (fun b o h => f.box _ _ (hX _ _ h)) (fun p b o h hx => f.apart _ _ _ h (hX _ _ hx)), ⟨?_, a, es.length, cap, u.val, u.spot, ?_⟩, f.less fun b o h => h, fun b o h => h.1, hX⟩
  · rw [u.val]
    refine .list (.inl rfl) rfl u.le u.pos (.inr u.spot) u.elems u.low (u.vl.later ((Tr.less (M := Nought) X).later fun _ _ h => h.elim)) (fun i v hi => ⟨u.cell i v hi, fun hw => hw.2 ⟨rfl, by omega, ?_⟩⟩) .nil
    have := (List.getElem?_eq_some_iff.1 hi).1
    rw [u.len] at this; omega
  · intro j h1 h2
    obtain ⟨h3, h4⟩ := u.spare j (Nat.zero_le _) h2
    exact ⟨⟨h3, fun hx => by have := hx.2.2; omega⟩, h4⟩

theorem elems_length {sz : Nat} : ∀ {es : List AV}, (∀ e ∈ es, e.cells.length = sz) → (es.flatMap AV.cells).length = es.length * sz
  | [], _ => by simp
  | e :: l, h => by rw [List.flatMap_cons, List.length_append, elems_length fun e he => h e (by simp [he]), h e (by simp), List.length_cons, Nat.add_mul, Nat.one_mul, Nat.add_comm]

/-- A new array for a list. -/
theorem Rel.fresh (r : Rel g w ow fr tm σ) {sz cap : Nat} {es : List AV} {xs rest : List Value} {E : TypeId} {fz : Nat × Nat} (hsz : 0 < sz) (he : Elems sz es) (hlow : AV.under.go 0 es = true) (hv : VL g w (es.flatMap AV.cells) xs)
    (hcap : es.length ≤ cap) (hl : (xs ++ rest).length = cap * sz) (hfz : ∀ o, o < cap * sz → ¬ (fz.1 ≤ o ∧ o < fz.2)) (hw : w'.heap = w.heap.push (.cells (xs ++ rest).toArray E fz)) (henv : SameEnv w w' := by exact ⟨rfl, rfl, rfl⟩) :
    ∃ wr' ro, Rel { g with wr := wr' } w' ow fr tm σ ∧ Tr Nought g w { g with wr := wr' } w' ∧ Free { g with wr := wr' } ow ro ∧ (∀ b o, ro b o → b = w.heap.size) ∧ (∀ b o, wr' b o → g.wr b o ∨ b = w.heap.size) ∧ (∀ b o, g.wr b o → wr' b o) ∧
      PV { g with wr := wr' } w' ro (.list .uniq sz es) (.slice (some ⟨w.heap.size, 0, none⟩) es.length cap) := by
  have hnew : w'.heap[w.heap.size]? = some (.cells (xs ++ rest).toArray E fz) := by rw [hw]; simp
  have hne : ∀ {b : Nat}, g.isBox b → b ≠ w.heap.size := fun hb e => by have := G.isBox_lt r.ss hb; omega
  have hown : ∀ p b o, ow p b o → b < w.heap.size := fun p b o h => r.ss.lt _ _ (r.own.wr _ _ _ h)
  have t : Tr Nought g w { g with wr := fun b o => g.wr b o ∨ b = w.heap.size ∧ o < cap * sz } w' := Tr.new hw (fun _ _ h => h) (fun _ _ h => h) henv
  refine ⟨fun b o => g.wr b o ∨ b = w.heap.size ∧ o < cap * sz, fun b o => b = w.heap.size ∧ o < cap * sz, ⟨?_, ?_, ?_⟩, t, ⟨fun b o h => .inr h, ?_, ?_⟩, fun b o h => h.1, fun b o h => h.imp id And.left, fun b o h => .inl h, ⟨w.heap.size, 0, none⟩, cap, xs, ?_⟩
  · refine r.ss.still t (fun b o h => ?_) rfl rfl (fun b o _ h => .inl h) (fun _ _ _ _ h => h) (fun _ _ _ _ h => h)
    rcases h with h | h
    · exact t.lt (r.ss.lt _ _ h)
    · rw [hw, h.1]; simp
  · exact ⟨fun p b o h => .inl (r.own.wr _ _ _ h), r.own.box, r.own.one⟩
  · exact r.sf.later t (fun _ _ h => h.elim) (fun _ _ _ _ h => h) fun _ _ _ h => h
  · intro b o h hb; exact hne hb h.1
  · intro p b o h h'; have := hown _ _ _ h; have := h'.1; omega
  · have hxl : xs.length = es.length * sz := by rw [hv.length, elems_length fun e h => (he e h).1]
    refine ⟨rfl, hcap, hsz, rfl, he, hlow, hv.later (t.later fun _ _ h => h.elim), fun i v hi => ?_, fun j _ hj => ⟨⟨rfl, by simpa using hj⟩, ?_, ?_⟩, rfl, by rw [hw]; simp, fun x hx => hx.resolve_left fun h => by have := r.ss.lt _ _ h; simp at this⟩
    · simp only [World.cell?, hnew]
      have := (List.getElem?_eq_some_iff.1 hi).1
      simp [List.getElem?_append_left this, hi]
    · have : j < (xs ++ rest).length := by omega
      exact ⟨_, by simp only [World.cell?, hnew]; simp; exact List.getElem?_eq_getElem this⟩
    · simp only [World.frozen?, hnew]
      have := hfz j hj
      simpa using this

/-- Free cells are written: nothing else knows. -/
theorem Rel.touch (r : Rel g w ow fr tm σ) {ro : Nat → Nat → Prop} (f : Free g ow ro) (t : Tr M g w g w') (hM : ∀ b o, M b o → ro b o) : Rel g w' ow fr tm σ where
  own := r.own
  sf := r.sf.later t (fun b o h => f.wr _ _ (hM _ _ h)) (fun i b o h h' => f.apart _ _ _ h (hM _ _ h')) fun _ _ _ h => h
  ss := {
    slen := r.ss.slen
    hlen := r.ss.hlen
    nodup := r.ss.nodup
    lt := fun b o h => t.lt (r.ss.lt _ _ h)
    stk := fun n cs hn => by
      obtain ⟨h0, b, xs, E, fz, h1, h2⟩ := r.ss.stk n cs hn
      exact ⟨h0, b, xs, E, fz, h1, h2.later t (fun b o h => f.wr _ _ (hM _ _ h)) (fun o h => f.box _ _ (hM _ _ h) (.inl (List.mem_of_getElem? h1))) (fun i b x h h' => f.apart _ _ _ h (hM _ _ h')) (fun _ _ _ h => h) fun _ h => h⟩
    heap := fun n cs hn => by
      obtain ⟨h0, b, xs, E, fz, h1, h2⟩ := r.ss.heap n cs hn
      exact ⟨h0, b, xs, E, fz, h1, h2.later t (fun b o h => f.wr _ _ (hM _ _ h)) (fun o h => f.box _ _ (hM _ _ h) (.inr (List.mem_of_getElem? h1))) (fun i b x h h' => f.apart _ _ _ h (hM _ _ h')) (fun _ _ _ h => h) fun _ h => h⟩
    maps := fun n es c hn => by
      obtain ⟨b, xs, h1, h2⟩ := r.ss.maps n es c hn
      exact ⟨b, xs, h1, h2.later t (fun b o h => f.wr _ _ (hM _ _ h)) (fun o h => f.box _ _ (hM _ _ h) (.inr (List.mem_of_getElem? h1))) fun _ h => h⟩
    loops := fun n l hn => by
      obtain ⟨b, q, h1, h2⟩ := r.ss.loops n l hn
      exact ⟨b, q, h1, h2.later t (fun b o h => f.wr _ _ (hM _ _ h)) (fun o h => f.box _ _ (hM _ _ h) (.inr (List.mem_of_getElem? h1))) fun _ h => h⟩
    iters := fun n l hn => by
      obtain ⟨b, q, h1, h2⟩ := r.ss.iters n l hn
      exact ⟨b, q, h1, h2.later t (fun o h => f.box _ _ (hM _ _ h) (.inr (List.mem_of_getElem? h1))) fun _ h => h⟩
    dead := fun n hn => by
      obtain ⟨b, h1, h2⟩ := r.ss.dead n hn
      exact ⟨b, h1, t.lt h2⟩ }

theorem Lies.app {a : Addr} {xs ys : List Value} (h : Lies g w a xs) (h' : ∀ (i : Nat) (v : Value), ys[i]? = some v → w.cell? ⟨a.block, a.off + (xs.length + i), none⟩ = some v ∧ ¬ g.wr a.block (a.off + (xs.length + i))) : Lies g w a (xs ++ ys) := by
  intro i v hi
  by_cases e : i < xs.length
  · rw [List.getElem?_append_left e] at hi; exact h i v hi
  · rw [List.getElem?_append_right (Nat.le_of_not_lt e)] at hi
    have := h' _ _ hi
    rwa [show xs.length + (i - xs.length) = i by omega] at this

theorem Elems.app {sz : Nat} {es is : List AV} (h : Elems sz es) (h' : Elems sz is) : Elems sz (es ++ is) := fun e he => by
  rcases List.mem_append.1 he with he | he
  · exact h e he
  · exact h' e he

/-- More elements, in the room that there is. -/
theorem Rel.grow (r : Rel g w ow fr tm σ) {ro : Nat → Nat → Prop} {sz n cap : Nat} {es items : List AV} {fl : Fl} {news : List Value} {a : Addr} (hfl : fl = .own ∨ fl = .uniq) (h : PV g w ro (.list fl sz es) (.slice (some a) n cap)) (f : Free g ow ro)
    (he : Elems sz items) (hlow : AV.under.go 0 items = true) (hv : VL g w (items.flatMap AV.cells) news) (hcap : n + items.length ≤ cap) :
    n = es.length ∧ a.spot = none ∧ 0 < sz ∧ news.length = items.length * sz ∧
    (∀ j, j < news.length → (w.cell? ⟨a.block, a.off + n * sz + j, none⟩).isSome = true) ∧ (∀ j, j < news.length → w.frozen? ⟨a.block, a.off + n * sz + j, none⟩ = false) ∧
    ∃ X ro', Rel (g.less X) (w.setCells a.block (a.off + n * sz) news) ow fr tm σ ∧ Tr ro g w (g.less X) (w.setCells a.block (a.off + n * sz) news) ∧ Free (g.less X) ow ro' ∧ (∀ b o, ro' b o → ro b o) ∧ (∀ b o, X b o → ro b o) ∧
      PV (g.less X) (w.setCells a.block (a.off + n * sz) news) ro' (.list fl sz (es ++ items)) (.slice (some a) (n + items.length) cap) := by
  have hnl : news.length = items.length * sz := by rw [hv.length, elems_length fun e h => (he e h).1]
  have hmul : (n + items.length) * sz ≤ cap * sz := Nat.mul_le_mul_right _ hcap
  rw [Nat.add_mul] at hmul
  -- what both ways share
  have main : ∀ (hs : Spare w ro a (n * sz) (cap * sz)),
      (∀ j, j < news.length → (w.cell? ⟨a.block, a.off + n * sz + j, none⟩).isSome = true) ∧ (∀ j, j < news.length → w.frozen? ⟨a.block, a.off + n * sz + j, none⟩ = false) ∧
      Tr (fun b' o => b' = a.block ∧ a.off + n * sz ≤ o ∧ o < a.off + n * sz + news.length) g w g (w.setCells a.block (a.off + n * sz) news) ∧
      (∀ b' o, (b' = a.block ∧ a.off + n * sz ≤ o ∧ o < a.off + n * sz + news.length) → ro b' o) := by
    intro hs
    have hj : ∀ j, j < news.length → ro a.block (a.off + n * sz + j) ∧ (∃ v, w.cell? ⟨a.block, a.off + n * sz + j, none⟩ = some v) ∧ w.frozen? ⟨a.block, a.off + n * sz + j, none⟩ = false := fun j hj => by
      have := hs (n * sz + j) (by omega) (by omega)
      rwa [← Nat.add_assoc] at this
    have hc : ∀ j, j < news.length → (w.cell? ⟨a.block, a.off + n * sz + j, none⟩).isSome = true := fun j h => by obtain ⟨v, hv⟩ := (hj j h).2.1; rw [hv]; rfl
    have hf := fun j h => (hj j h).2.2
    refine ⟨hc, hf, Tr.setCells hc hf, fun b' o h => ?_⟩
    obtain ⟨rfl, h1, h2⟩ := h
    have := (hj (o - (a.off + n * sz)) (by omega)).1
    rwa [show a.off + n * sz + (o - (a.off + n * sz)) = o by omega] at this
  have hin : ∀ (hc : ∀ j, j < news.length → (w.cell? ⟨a.block, a.off + n * sz + j, none⟩).isSome = true) (i : Nat) (v : Value), news[i]? = some v → (w.setCells a.block (a.off + n * sz) news).cell? ⟨a.block, a.off + n * sz + i, none⟩ = some v := by
    intro hc i v hi
    obtain ⟨hl, rfl⟩ := List.getElem?_eq_some_iff.1 hi
    exact World.cell?_setCells_in _ news _ w hc i hl
  rcases hfl with rfl | rfl
  · obtain ⟨hV, a', len, cap', heq, h5, hs⟩ := h
    injection heq with h1 h2 h3
    injection h1 with h1; subst h1; subst h2; subst h3
    cases hV with
    | @list _ _ _ _ _ _ xs _ _ h1 h2 h3 h4 _ h6 h7 h8 h9 _ =>
    obtain ⟨hc, hf, t, hM⟩ := main hs
    let X : Nat → Nat → Prop := fun b' o => b' = a.block ∧ a.off + n * sz ≤ o ∧ o < a.off + n * sz + news.length
    have r1 := r.touch f t hM
    have r2 := r1.less (X := X) (fun b o h => f.box _ _ (hM _ _ h)) (fun p b o h h' => f.apart _ _ _ h (hM _ _ h'))
    have t2 : Tr X g w (g.less X) (w.setCells a.block (a.off + n * sz) news) := t.trans (Tr.less (M := X) X) fun b o h => .inl h
    have L := t2.later fun b o h => f.wr _ _ (hM _ _ h)
    have hxl : xs.length = n * sz := by rw [h8.length, elems_length fun e h => (h6 e h).1, h2]
    refine ⟨h2, h5, h4, hnl, hc, hf, X, fun b o => ro b o ∧ ¬ X b o, r2, t2.weaken hM, f.less fun b o h => h, fun b o h => h.1, hM, ?_, a, n + items.length, cap, rfl, h5, ?_⟩
    · refine .list (xs := xs ++ news) (.inl rfl) (by rw [List.length_append, ← h2]) hcap h4 (.inr h5) (h6.app he) (by rw [under_app, h7, hlow]; rfl) (by rw [List.flatMap_append]; exact (h8.later L).app (hv.later L)) ((h9.later L).app fun i v hi => ?_) .nil
      rw [hxl, ← Nat.add_assoc]
      exact ⟨hin hc i v hi, fun hw => hw.2 ⟨rfl, by omega, by have := (List.getElem?_eq_some_iff.1 hi).1; omega⟩⟩
    · intro j hj1 hj2
      rw [Nat.add_mul] at hj1
      obtain ⟨g1, ⟨v, g2⟩, g3⟩ := hs j (by omega) hj2
      obtain ⟨v', g4⟩ := t.live _ _ _ g2
      exact ⟨⟨g1, fun hx => by have := hx.2.2; omega⟩, ⟨v', g4⟩, by rw [t.froz _ _ (cell_lt g2)]; exact g3⟩
  · obtain ⟨a', cap', xs, u⟩ := h
    have heq := u.val
    injection heq with h1 h2 h3
    injection h1 with h1; subst h1; subst h3
    have hs : Spare w ro a (n * sz) (cap * sz) := fun j h1 h2 => u.spare j (Nat.zero_le _) h2
    obtain ⟨hc, hf, t, hM⟩ := main hs
    let X : Nat → Nat → Prop := fun _ _ => False
    have r2 := (r.touch f t hM).less (X := X) (fun b o h => h.elim) (fun p b o h h' => h')
    have t2 : Tr ro g w (g.less X) (w.setCells a.block (a.off + n * sz) news) := (t.weaken hM).trans (Tr.less (M := Nought) X) fun b o h => h.elim
    have L := t2.later fun b o h => f.wr _ _ h
    have hxl : xs.length = n * sz := by rw [u.len, h2]
    refine ⟨h2, u.spot, u.pos, hnl, hc, hf, X, ro, r2, t2, f.less fun b o h => ⟨h, fun h => h⟩, fun b o h => h, fun b o h => h.elim, a, cap, xs ++ news, by rw [List.length_append, h2], by rw [List.length_append, ← h2]; exact hcap, u.pos, u.spot, u.elems.app he, by rw [under_app, u.low, hlow]; rfl, by rw [List.flatMap_append]; exact (u.vl.later L).app (hv.later L), ?_, ?_, ?_, ?_, ?_⟩
    · intro i v hi
      by_cases e : i < xs.length
      · rw [List.getElem?_append_left e] at hi
        rw [t.cell _ _ (cell_lt (u.cell i v hi)) (fun h => by have := h.2.1; omega)]
        exact u.cell i v hi
      · rw [List.getElem?_append_right (Nat.le_of_not_lt e)] at hi
        have := hin hc _ _ hi
        rwa [show a.off + n * sz + (i - xs.length) = a.off + i by omega] at this
    · exact u.spare.later t
    · exact u.off
    · exact Nat.lt_of_lt_of_le u.lt t.size
    · exact fun x hx => u.all x hx.1
end
end Go.AM
/-! One operation: what it yields in a world. First those that write nothing. -/
namespace Go.AM
open Go
set_option linter.unusedVariables false

structure Out (g : G) (w : World) (ow : Own) (dst : Option Tmp) (v : AV) (fr' : Fr) (σ' : St) (tm : Array Value) (g' : G) (w' : World) (ow' : Own) (val : Value) : Prop where
  rel : Rel g' w' ow' (putA dst v fr') (put dst val tm) σ'
  tr : Tr (May g ow) g w g' w'
  may : ∀ b o, May g' ow' b o → May g ow b o ∨ w.heap.size ≤ b
  keep : ∀ b o, g.wr b o → May g ow b o ∨ g'.wr b o
  hbn : ∀ b, b ∈ g'.hb → b ∈ g.hb ∨ w.heap.size ≤ b

theorem act_put (a : Act) (dst : Option Tmp) (v : Value) : (a.put dst v).tmps = put dst v a.tmps := by cases dst <;> rfl

theorem val_run {α : Type} {P : Program} : ∀ {s : Sem α} {x : α}, val P s = some x → ∀ w : World, s.run P w = .ok x w
  | .pure a, x, h, w => by simp [val] at h; subst h; rfl
  | .program k, x, h, w => by simp only [val] at h; simp only [Sem.run]; exact val_run h w
  | .load .., _, h, _ => by simp [val] at h
  | .store .., _, h, _ => by simp [val] at h
  | .new .., _, h, _ => by simp [val] at h
  | .shape .., _, h, _ => by simp [val] at h
  | .freeze .., _, h, _ => by simp [val] at h
  | .frozen .., _, h, _ => by simp [val] at h
  | .getObj .., _, h, _ => by simp [val] at h
  | .setObj .., _, h, _ => by simp [val] at h
  | .choose .., _, h, _ => by simp [val] at h
  | .sys .., _, h, _ => by simp [val] at h
  | .mark .., _, h, _ => by simp [val] at h
  | .halt .., _, h, _ => by simp [val] at h

section
variable {P : Program} {g g' : G} {w w' : World} {ow ow' ow1 : Own} {σ σ' : St} {fr fr' : Fr} {tm : Array Value} {o : Oper} {a : Act} {next : Act → World → Prop} {Q : Exit → Act → World → Prop}

/-- The way to an outcome. -/
theorem Out.of {dst : Option Tmp} {v : AV} {val : Value} {ro : Nat → Nat → Prop} (r : Rel g' w' ow1 fr' tm σ') (hv : PV g' w' ro v val) (f : Free g' ow1 ro) (t : Tr (May g ow) g w g' w')
    (h1 : ∀ p b o, ow1 p b o → May g ow b o ∨ w.heap.size ≤ b) (h2 : ∀ b o, ro b o → May g ow b o ∨ w.heap.size ≤ b) (h3 : ∀ b o, g'.isBox b → g'.wr b o → May g ow b o ∨ w.heap.size ≤ b)
    (h4 : ∀ b o, g.wr b o → May g ow b o ∨ g'.wr b o) (h5 : ∀ b, b ∈ g'.hb → b ∈ g.hb ∨ w.heap.size ≤ b) :
    ∃ ow', Out g w ow dst v fr' σ' tm g' w' ow' val := by
  obtain ⟨ow', r', k1, _, _⟩ := r.put (dst := dst) hv f
  exact ⟨ow', r', t, fun b o h => by
    rcases h with h | ⟨p, h⟩
    · exact h3 b o h.1 h.2
    · rcases k1 p b o h with h | h
      · exact h1 p b o h
      · exact h2 b o h, h4, h5⟩

theorem May.own {b o : Nat} {p : Pl} (h : ow p b o) : May g ow b o := .inr ⟨p, h⟩

/-- Nothing is owned, nothing written. -/
theorem Out.pure {dst : Option Tmp} {v : AV} {val : Value} (r : Rel g w ow fr tm σ) (hv : V g w v val) : ∃ ow', Out g w ow dst v fr σ tm g w ow' val :=
  Out.of r (PV.of (o := Nobody) hv) (Free.nobody _ _) (Tr.refl _ _ _) (fun p b o h => .inl (.own h)) (fun b o h => h.elim) (fun b o h1 h2 => .inl (.inl ⟨h1, h2⟩)) (fun _ _ h => .inr h) (fun _ h => .inl h)

/-- No fence at all; in a round, or not. -/
def FW : Option Nat → Fence
  | none => Fence.wide
  | some l => Fence.wide.inRound l

theorem FW_fn (rd : Option Nat) (f : FuncId) : (FW rd).fn f := by cases rd <;> trivial

theorem FW_depth (rd : Option Nat) (n : Nat) : (FW rd).depth.isSome = true → 1 ≤ n := by cases rd <;> exact fun h => by simp [FW, Fence.wide, Fence.inRound] at h

theorem FW_round (rd : Option Nat) : (FW rd).round = rd := by cases rd <;> rfl

theorem FW_calls {rd : Option Nat} {n : Nat} {f : FuncId} {args : Array Value} {R : Ending → World → Prop} (h : Calls P f args w R) : CallsIn (FW rd) n P f args w R := by
  cases rd with
  | none => exact callsIn_wide.2 h
  | some l => exact (callsIn_wide (n := n)).2 h

theorem semAt_of {rd : Option Nat} {x : Next} (hr : (execOp a.eval o).run P w = .ok x w') (hx : ∀ d, x ≠ .defer d) : (o.semAt rd a.eval).run P w = .ok x w' := by
  rw [Oper.semAt_eq rd a.eval o fun c hc => ?_]
  · exact hr
  · simp only [execOp, hc, Sem.run_bind] at hr
    cases hres : (resolve a.eval c o.type).run P w with
    | ok d w2 => rw [hres] at hr; simp only [Result.andThen_ok, Sem.run_pure, Result.ok.injEq] at hr; exact hx d hr.1.symm
    | halt h w2 => rw [hres] at hr; cases hr

theorem wp_value {rd : Option Nat} {val : Value} {v : AV} (hr : (execOp a.eval o).run P w = .ok (.value val) w') (ho : ∃ ow', Out g w ow o.dst v fr' σ' a.tmps g' w' ow' val)
    (hn : ∀ g' w' ow' val, Out g w ow o.dst v fr' σ' a.tmps g' w' ow' val → next (a.put o.dst val) w') : o.wpIn (FW rd) 0 P a w next Q := by
  obtain ⟨ow', ho⟩ := ho
  refine ⟨fun f _ => FW_fn rd f, ?_⟩
  rw [FW_round, semAt_of hr (by simp)]; exact hn _ _ _ _ ho

theorem wp_skipped {rd : Option Nat} {v : AV} (hr : (execOp a.eval o).run P w = .ok .skip w') (ho : ∃ ow', Out g w ow o.dst v fr' σ' a.tmps g' w' ow' undef)
    (hn : ∀ g' w' ow' val, Out g w ow o.dst v fr' σ' a.tmps g' w' ow' val → next (a.put o.dst val) w') : o.wpIn (FW rd) 0 P a w next Q := by
  obtain ⟨ow', ho⟩ := ho
  refine ⟨fun f _ => FW_fn rd f, ?_⟩
  rw [FW_round, semAt_of hr (by simp)]; exact hn _ _ _ _ ho

theorem PV.sh {ro : Nat → Nat → Prop} {x : AV} {v : Value} (h : PV g w ro x v) (hx : ∀ sz es, x ≠ .list .uniq sz es) : V g w x.sh v := by
  cases x with
  | list fl sz es =>
    cases fl with
    | own => exact h.1
    | uniq => exact (hx _ _ rfl).elim
    | sh => exact h
    | full => exact h
  | _ => exact h

/-- What is taken from a slot. -/
theorem taken_true (r : Rel g w ow fr a.tmps σ) (x : Operand) :
    ∃ ow1, Rel g w ow1 (taken true fr x).2 a.tmps σ ∧ PV g w (ownOf ow x) (taken true fr x).1 (a.eval x) ∧ Free g ow1 (ownOf ow x) ∧ (∀ p b o, ow1 p b o → ow p b o) := by
  cases x with
  | tmp t =>
    obtain ⟨h1, h2, h3⟩ := r.take t
    refine ⟨_, h2, h1, h3, fun p b o h => ?_⟩
    by_cases e : p = .slot t
    · rw [e, Own.set_same] at h; exact h.elim
    · rw [Own.set_other _ _ e] at h; exact h
  | const v => exact ⟨ow, r, r.sf.opnd _, Free.nobody _ _, fun _ _ _ h => h⟩
  | global n => exact ⟨ow, r, r.sf.opnd _, Free.nobody _ _, fun _ _ _ h => h⟩
  | func f => exact ⟨ow, r, r.sf.opnd _, Free.nobody _ _, fun _ _ _ h => h⟩

theorem set_same (fr : Fr) (t : Nat) (x : AV) (h : fr.getD t .undef = x) (hx : x ≠ .undef) : fr.set t x = fr := by
  apply List.ext_getElem?
  intro i
  by_cases e : i = t
  · subst e
    by_cases hl : i < fr.length
    · rw [List.getElem?_set_self hl, List.getElem?_eq_getElem hl]; simp [List.getD, hl] at h; rw [h]
    · simp [List.getD, hl] at h; exact (hx h.symm).elim
  · rw [List.getElem?_set_ne (Ne.symm e)]

/-- What is looked at in a slot. -/
theorem taken_false (r : Rel g w ow fr a.tmps σ) (x : Operand) :
    ∃ g1 ow1, Rel g1 w ow1 (taken false fr x).2 a.tmps σ ∧ V g1 w (taken false fr x).1 (a.eval x) ∧ Tr (May g ow) g w g1 w ∧ (∀ p b o, ow1 p b o → ow p b o) ∧ (∀ b o, g1.wr b o → g.wr b o) ∧ (∀ b, g1.isBox b → g.isBox b) ∧ (∀ b o, g.wr b o → g1.wr b o ∨ ∃ p, ow p b o) ∧ g1.sb = g.sb ∧ g1.hb = g.hb := by
  have plain : ∀ (h : (taken false fr x) = ((opnd fr x).sh, fr)) (h' : ∀ sz es, opnd fr x ≠ .list .uniq sz es), ∃ g1 ow1, Rel g1 w ow1 (taken false fr x).2 a.tmps σ ∧ V g1 w (taken false fr x).1 (a.eval x) ∧ Tr (May g ow) g w g1 w ∧ (∀ p b o, ow1 p b o → ow p b o) ∧ (∀ b o, g1.wr b o → g.wr b o) ∧ (∀ b, g1.isBox b → g.isBox b) ∧ (∀ b o, g.wr b o → g1.wr b o ∨ ∃ p, ow p b o) ∧ g1.sb = g.sb ∧ g1.hb = g.hb := by
    intro h h'
    rw [h]
    exact ⟨g, ow, r, (r.sf.opnd x).sh h', Tr.refl _ _ _, fun _ _ _ h => h, fun _ _ h => h, fun _ h => h, fun _ _ h => .inl h, rfl, rfl⟩
  cases x with
  | tmp t =>
    by_cases hu : ∃ sz es, fr.getD t .undef = .list .uniq sz es
    · obtain ⟨sz, es, hu⟩ := hu
      have ht : taken false fr (.tmp t) = (.list .sh sz es, fr.set t (.list .own sz es)) := by unfold taken; simp only [Bool.false_eq_true, if_false, hu]
      rw [ht]
      obtain ⟨h1, h2, h3⟩ := r.take t
      rw [hu] at h1 h2
      obtain ⟨X, ro', r', hp, f', k1, k2⟩ := Uniq.calm h2 h1 h3
      obtain ⟨ow2, r2, k3, k4, k5⟩ := r'.put (dst := none) hp f'
      have hV : V (g.less X) w (.list .sh sz es) (a.eval (.tmp t)) := hp.1
      -- the slot keeps what is not shared
      refine ⟨g.less X, (ow.set (.slot t) Nobody).set (.slot t) ro', ⟨?_, r'.own.set f', ?_⟩, hV, Tr.less X, ?_, fun _ _ h => h.1, fun _ h => h, fun b o h => (Classical.em (X b o)).elim (fun hx => .inr ⟨_, k2 _ _ hx⟩) fun hx => .inl ⟨h, hx⟩, rfl, rfl⟩
      · exact r'.ss.own (fun n i b x h => by rw [Own.set_other _ _ (by simp)]; exact h) (fun n i b x h => by rw [Own.set_other _ _ (by simp)]; exact h)
      · have hs := r'.sf
        refine ⟨by rw [hs.size]; simp, fun i x hi => ?_⟩
        by_cases e : i = t
        · subst e
          have hl : i < fr.length := by
            rcases Nat.lt_or_ge i fr.length with h | h
            · exact h
            · rw [List.getElem?_eq_none (by simpa using h)] at hi; simp at hi
          rw [List.getElem?_set_self hl] at hi
          injection hi with hi; subst hi
          obtain ⟨v, hv1, _⟩ := r.sf.val i _ (List.getElem?_eq_getElem hl)
          refine ⟨v, hv1, ?_⟩
          rw [Own.set_same]
          have : a.tmps.getD i undef = v := by simp [hv1]
          rw [← this]; exact hp
        · rw [List.getElem?_set_ne (Ne.symm e)] at hi
          obtain ⟨u, hu1, hu2⟩ := hs.val i x (by rw [List.getElem?_set_ne (Ne.symm e)]; exact hi)
          exact ⟨u, hu1, by rw [Own.set_other _ _ (by simpa using e)]; exact hu2⟩
      · intro p b o h
        by_cases e : p = .slot t
        · rw [e, Own.set_same] at h; exact e ▸ k1 _ _ h
        · rw [Own.set_other _ _ e, Own.set_other _ _ e] at h; exact h
    · refine plain ?_ fun sz es h => hu ⟨sz, es, h⟩
      unfold taken
      simp only [Bool.false_eq_true, if_false]
      split
      · rename_i sz es h; exact (hu ⟨sz, es, h⟩).elim
      · rfl
  | const v => 
    have hc := opnd_const_common fr (.const v) (by simp)
    refine plain ?_ fun sz es h => by rw [h] at hc; simp [AV.common] at hc
    have : (opnd fr (.const v)).sh = opnd fr (.const v) := by revert hc; cases opnd fr (.const v) with | list fl _ _ => cases fl <;> simp [AV.common, AV.sh] | _ => simp [AV.sh]
    rw [this]; rfl
  | global n => exact plain rfl fun sz es h => by simp [opnd] at h
  | func f => exact plain rfl fun sz es h => by simp [opnd] at h
end
end Go.AM
/-! Operations that only compute. -/
namespace Go.AM
open Go
set_option linter.unusedVariables false

section
variable {P : Program} {g : G} {w : World}

theorem run_sizeOf {t : TypeId} (h : P.cellsOf t ≠ 0) (w : World) : (sizeOf t).run P w = .ok (P.cellsOf t) w := by
  unfold Program.cellsOf at h ⊢
  cases hi : P.info? t with
  | none => simp [hi] at h
  | some i => simp [sizeOf, typeInfo, hi]

theorem info_of_underlying {t : TypeId} {d : TypeDesc} (h : P.underlying t = some d) : ∃ i, P.info? t = some i := by
  unfold Program.underlying at h
  cases hi : P.info? t with
  | none => simp [hi] at h
  | some i => exact ⟨i, rfl⟩

theorem run_aggOf {t : TypeId} {b : Bool} (h : aggOf P t = some b) (w : World) : (Go.isAgg t).run P w = .ok b w := by
  unfold aggOf at h
  cases hu : P.underlying t with
  | none => simp [hu] at h
  | some d => cases d <;> simp [hu] at h <;> subst h <;> simp [Go.isAgg, run_underlying hu]

theorem V.rop_drop {cs : List AV} {a : Addr} {n : Nat} (h : V g w (.rop cs) (.pointer (some a))) : V g w (.rop (cs.drop n)) (.pointer (some (a.add n))) := by
  cases h with
  | @rop _ _ xs _ _ h1 h2 h3 h4 h5 _ =>
  have hadd : a.add n = ⟨a.block, a.off + n, none⟩ := by
    unfold Addr.add; split
    · rename_i h0; subst h0; cases a; simp_all
    · rfl
  rw [hadd]
  refine .rop rfl (fun c hc => h2 c (List.mem_of_mem_drop hc)) ?_ (h4.drops n) ?_ .nil
  · rw [under_mem] at *; exact fun c hc => h3 c (List.mem_of_mem_drop hc)
  · intro i v hi
    rw [List.getElem?_drop] at hi
    have := h5 _ _ hi
    rwa [← Nat.add_assoc] at this

theorem V.ptr_inv {r : Ref} {off : Nat} {v : Value} (h : V g w (.ptr r off) v) : ∃ b, v = .pointer (some ⟨b, off, none⟩) ∧ g.ref r = some b := by
  cases h with
  | ptr h1 _ => exact ⟨_, rfl, h1⟩

theorem V.rop_inv {cs : List AV} {v : Value} (h : V g w (.rop cs) v) : ∃ a, v = .pointer (some a) := by
  cases h with
  | rop h1 _ _ _ _ _ => exact ⟨_, rfl⟩

theorem V.sc_inv {x : Sc} {v : Value} (h : V g w (.s x) v) : v = x.toV := by cases h; rfl

/-- An address moved on. -/
theorem V.shift {p q : AV} {n : Nat} {v : Value} (h : V g w p v) (hs : shift p n = some q) : ∃ a, v = .pointer (some a) ∧ V g w q (.pointer (some (a.add n))) := by
  cases p <;> simp only [AM.shift] at hs
  case ptr r off =>
    injection hs with hs; subst hs
    obtain ⟨b, rfl, hr⟩ := h.ptr_inv
    refine ⟨_, rfl, ?_⟩
    rw [Addr.add_lit]
    exact .ptr hr .nil
  case rop cs =>
    injection hs with hs; subst hs
    obtain ⟨a, rfl⟩ := h.rop_inv
    exact ⟨a, rfl, h.rop_drop⟩
  all_goals cases hs

theorem fieldAt_run {s : TypeId} {i : Nat} {q : Field} {x v : AV} {xv : Value} (hf : fieldOf P s i = some q) (h0 : P.cellsOf q.type ≠ 0) (hx : V g w x xv) (hs : AM.shift x q.offset = some v) :
    ∃ val, (Instr.fieldAt s xv i).run P w = .ok val w ∧ V g w v val := by
  obtain ⟨a, rfl, hv⟩ := hx.shift hs
  refine ⟨_, ?_, hv⟩
  unfold fieldOf at hf
  cases hu : P.underlying s with
  | none => simp [hu] at hf
  | some d =>
    cases d <;> simp [hu] at hf
    simp [Instr.fieldAt, run_underlying hu, hf, Instr.sureAddr, fieldPlace, run_sizeOf h0, h0]

theorem V.elem {fl : Fl} {sz : Nat} {es : List AV} {a : Addr} {len cap i : Nat} {e : AV} (h : V g w (.list fl sz es) (.slice (some a) len cap)) (hi : es[i]? = some e) : V g w (.rop e.cells) (.pointer (some (a.add (i * sz)))) := by
  cases h with
  | @list _ _ _ _ _ _ xs _ _ h1 h2 h3 h4 h5 h6 h7 h8 h9 _ =>
  have h5 := h5.resolve_left (by rintro rfl; simp at hi)
  have hadd : a.add (i * sz) = ⟨a.block, a.off + i * sz, none⟩ := by
    unfold Addr.add; split
    · rename_i h0; rw [h0]; cases a; simp_all
    · rfl
  have hmem := List.mem_of_getElem? hi
  obtain ⟨hl, hf⟩ := h6 e hmem
  -- the element's own cells
  have hpre : es.take i ++ e :: es.drop (i + 1) = es := by
    obtain ⟨hlt, rfl⟩ := List.getElem?_eq_some_iff.1 hi
    rw [← List.drop_eq_getElem_cons hlt, List.take_append_drop]
  have hcut : (es.flatMap AV.cells).drop (i * sz) = e.cells ++ (es.drop (i + 1)).flatMap AV.cells := by
    conv => lhs; rw [← hpre]
    rw [List.flatMap_append, List.flatMap_cons]
    have : ((es.take i).flatMap AV.cells).length = i * sz := by
      rw [elems_length fun x hx => (h6 x (List.mem_of_mem_take hx)).1, List.length_take]
      have := (List.getElem?_eq_some_iff.1 hi).1
      rw [Nat.min_eq_left (by omega)]
    rw [← this, List.drop_left]
  have hvl : VL g w e.cells ((xs.drop (i * sz)).take sz) := by
    have h10 := (h8.drops (i * sz)).takes sz
    rw [hcut, ← hl, List.take_left] at h10
    rw [hl] at h10; exact h10
  rw [hadd]
  refine .rop rfl hf (under_cells1 ((under_mem.1 h7) e hmem)) hvl ?_ .nil
  · intro j v hj
    rw [List.getElem?_take] at hj
    split at hj
    · rw [List.getElem?_drop] at hj
      have := h9 _ _ hj
      rwa [← Nat.add_assoc] at this
    · cases hj
end
end Go.AM
/-! Indexes, parts, slices, lengths. -/
namespace Go.AM
open Go
set_option linter.unusedVariables false

section
variable {P : Program} {g : G} {w : World}

theorem V.list_inv {fl : Fl} {sz : Nat} {es : List AV} {v : Value} (h : V g w (.list fl sz es) v) : (∃ a cap, v = .slice (some a) es.length cap ∧ es.length ≤ cap) ∨ (fl = .sh ∧ es = [] ∧ v = .slice none 0 0) := by
  cases h with
  | @list _ _ _ a len cap _ _ _ h1 h2 h3 h4 h5 h6 h7 h8 h9 _ => subst h2; exact .inl ⟨_, _, rfl, h3⟩
  | lnil _ _ => exact .inr ⟨rfl, rfl, rfl⟩

theorem V.list_pos {fl : Fl} {sz : Nat} {es : List AV} {v : Value} (h : V g w (.list fl sz es) v) : 0 < sz := by
  cases h with
  | list _ _ _ h4 _ _ _ _ _ _ => exact h4
  | lnil h _ => exact h

theorem V.row_inv {r : Ref} {off len cap : Nat} {v : Value} (h : V g w (.row r off len cap) v) : ∃ b c, v = .slice (some ⟨b, off, none⟩) len c ∧ g.ref r = some b ∧ len ≤ cap ∧ cap ≤ c := by
  cases h with
  | row h1 h2 h3 _ => exact ⟨_, _, rfl, h1, h2, h3⟩

theorem V.agg_inv {cs : List AV} {v : Value} (h : V g w (.agg cs) v) : ∃ xs : Array Value, v = .agg xs ∧ (∀ c ∈ cs, c.isCell = true) ∧ VL g w cs xs.toList := by
  cases h with
  | agg h0 h1 _ => exact ⟨_, rfl, h0, h1⟩

theorem V.tup_inv {cs : List AV} {v : Value} (h : V g w (.tup cs) v) : ∃ xs : Array Value, v = .tuple xs ∧ VL g w cs xs.toList := by
  cases h with
  | tup h1 _ => exact ⟨_, rfl, h1⟩

theorem V.map_inv {n : Nat} {v : Value} (h : V g w (.map n) v) : ∃ b, v = .map (some b) ∧ g.hb[n]? = some b := by
  cases h with
  | map h1 _ => exact ⟨_, rfl, h1⟩

theorem V.fn_inv {f : Fn} {p c : List AV} {v : Value} (h : V g w (.fn f p c) v) : ∃ xs ys : Array Value, v = .func f xs ys ∧ VL g w p xs.toList ∧ VL g w c ys.toList := by
  cases h with
  | fn h1 h2 _ => exact ⟨_, _, rfl, h1, h2⟩

theorem indexAt_run {t : TypeId} {x ix v : AV} {xv iv : Value} (h : indexAddr P t x ix = some v) (hx : V g w x xv) (hi : V g w ix iv) :
    ∃ val, (Instr.indexAt t xv iv).run P w = .ok val w ∧ V g w v val := by
  unfold indexAddr at h
  split at h
  case h_2 => cases h
  rename_i k i
  obtain rfl := hi.sc_inv
  split at h
  · rename_i n e hu
    split at h
    case isFalse => cases h
    rename_i hc
    obtain ⟨a, rfl, hv⟩ := hx.shift h
    exact ⟨_, by simp [Instr.indexAt, asIntOf, Sc.toV, run_underlying hu, Instr.sureAddr, hc.1, hc.2.1, run_sizeOf hc.2.2], hv⟩
  · rename_i e fl sz es hu
    split at h
    case isFalse => cases h
    rename_i hc
    injection h with h; subst h
    have hlt : i.toNat < es.length := by omega
    obtain ⟨a, cap, rfl, hle⟩ := hx.list_inv.resolve_right fun h => by rw [h.2.1] at hlt; simp at hlt
    have hv := hx.elem (List.getElem?_eq_getElem hlt)
    have hg : es.getD i.toNat .undef = es[i.toNat] := by simp [List.getD, hlt]
    rw [hg]
    obtain ⟨h1, h2, h3, h4, h5⟩ := hc
    subst h2
    exact ⟨_, by simp [Instr.indexAt, asIntOf, Sc.toV, run_underlying hu, h4, h5, run_sizeOf h3], hv⟩
  · rename_i e r off len cap hu
    split at h
    case isFalse => cases h
    rename_i hc
    injection h with h; subst h
    obtain ⟨b, c, rfl, hr, h1, h2⟩ := hx.row_inv
    refine ⟨_, by simp [Instr.indexAt, asIntOf, Sc.toV, run_underlying hu, hc.1, hc.2.1, run_sizeOf hc.2.2]; rfl, ?_⟩
    rw [Addr.add_lit]; exact .ptr hr .nil
  · cases h

theorem part_run {t : TypeId} {cs : List AV} {xs : Array Value} {off : Nat} {v : AV} (h : partOf P t cs off = some v) (hx : VL g w cs xs.toList) (hc : ∀ c ∈ cs, c.isCell = true) :
    ∃ val, (part t xs off).run P w = .ok val w ∧ V g w v val := by
  unfold partOf at h
  split at h
  · rename_i ha
    split at h
    case isFalse => cases h
    rename_i hl
    injection h with h; subst h
    refine ⟨_, by simp [part, run_aggOf ha, run_sizeOf hl.2]; rfl, .agg (fun c h => hc c (List.mem_of_mem_drop (List.mem_of_mem_take h))) ?_ .nil⟩
    have := (hx.drops off).takes (P.cellsOf t)
    rw [Array.toList_extract]
    simpa [List.extract, Nat.add_sub_cancel_left] using this
  · rename_i ha
    obtain ⟨u, h1, h2⟩ := hx.get h
    have h1' : xs[off]? = some u := by simpa using h1
    exact ⟨u, by simp [part, run_aggOf ha, h1'], h2⟩
  · cases h

theorem index_run {t : TypeId} {x ix v : AV} {xv iv : Value} (h : index P t x ix = some v) (hx : V g w x xv) (hi : V g w ix iv) :
    ∃ val, (Instr.index t xv iv).run P w = .ok val w ∧ V g w v val := by
  unfold index at h
  split at h
  case h_2 => cases h
  rename_i k i
  obtain rfl := hi.sc_inv
  split at h
  · rename_i n e cs hu
    split at h
    case isFalse => cases h
    rename_i hc
    obtain ⟨xs, rfl, h0, h1⟩ := hx.agg_inv
    obtain ⟨val, h2, h3⟩ := part_run h h1 h0
    exact ⟨val, by simp [Instr.index, asIntOf, Sc.toV, run_underlying hu, hc.1, hc.2.1, run_sizeOf hc.2.2, h2], h3⟩
  · rename_i l hu
    split at h
    case isFalse => cases h
    rename_i hc
    injection h with h; subst h
    obtain rfl := hx.sc_inv
    have hlt : i.toNat < l.length := by omega
    refine ⟨.int .u8 (l.getD i.toNat 0).toNat, ?_, .sc (.int .u8 _) .nil⟩
    have hb : (ByteArray.mk l.toArray)[i.toNat]? = some (l.getD i.toNat 0) := by
      have : i.toNat < (ByteArray.mk l.toArray).size := by simpa [ByteArray.size] using hlt
      rw [getElem?_pos (ByteArray.mk l.toArray) i.toNat this]
      simp [List.getD, hlt, ByteArray.getElem_eq_getElem_data]
    simp [Instr.index, asIntOf, Sc.toV, run_underlying hu, hc.1, hb]
  · cases h

theorem field_run {s : TypeId} {i : Nat} {q : Field} {cs : List AV} {v : AV} {xv : Value} (hf : fieldOf P s i = some q) (hx : V g w (.agg cs) xv) (h : partOf P q.type cs q.offset = some v) :
    ∃ val, (Instr.field s xv i).run P w = .ok val w ∧ V g w v val := by
  obtain ⟨xs, rfl, h0, h1⟩ := hx.agg_inv
  obtain ⟨val, h2, h3⟩ := part_run h h1 h0
  refine ⟨val, ?_, h3⟩
  unfold fieldOf at hf
  cases hu : P.underlying s with
  | none => simp [hu] at hf
  | some d =>
    cases d <;> simp [hu] at hf
    simp [Instr.field, run_underlying hu, hf, asAgg, h2]

theorem extract_run {vs : List AV} {i : Nat} {v : AV} {xv : Value} (hx : V g w (.tup vs) xv) (h : vs[i]? = some v) : ∃ val, (Instr.extract xv i).run P w = .ok val w ∧ V g w v val := by
  obtain ⟨xs, rfl, h1⟩ := hx.tup_inv
  obtain ⟨u, h2, h3⟩ := h1.get h
  have h2' : xs[i]? = some u := by simpa using h2
  exact ⟨u, by simp [Instr.extract, h2'], h3⟩

/-! Bounds of slice expressions -/
theorem bound_run {x : Option AV} {xv : Option Value} {d n : Nat} (h : bound x d = some n) (hx : ∀ y, x = some y → ∃ v, xv = some v ∧ V g w y v) (hn : x = none → xv = none) :
    (x = none ∧ xv = none ∧ n = d) ∨ ∃ k i, xv = some (.int k i) ∧ 0 ≤ i ∧ n = i.toNat ∧ (n : Int) = i := by
  unfold bound at h
  split at h
  · injection h with h; exact .inl ⟨rfl, hn rfl, h.symm⟩
  · rename_i k i
    split at h
    case isFalse => cases h
    rename_i h0
    injection h with h
    obtain ⟨v, rfl, hv⟩ := hx _ rfl
    obtain rfl := hv.sc_inv
    exact .inr ⟨k, i, rfl, h0, h.symm, by omega⟩
  · cases h

theorem sliceBound_ok {k : IntKind} {i : Int} {n y : Nat} {code : BoundsCode} (h : (n : Int) = i) (hy : n ≤ y) : (Instr.sliceBound (.int k i) y code).run P w = .ok n w := by
  subst h
  have h1 : (0 : Int) ≤ n ∧ (n : Int) ≤ y := by omega
  simp [Instr.sliceBound, asIntOf, hy]

/-- Bounds without a maximum. -/
theorem bounds_ok {isSlice : Bool} {len cap a b : Nat} {lo hi : Option Value} (hl : (lo = none ∧ a = 0) ∨ ∃ k i, lo = some (.int k i) ∧ (a : Int) = i) (hh : (hi = none ∧ b = len) ∨ ∃ k i, hi = some (.int k i) ∧ (b : Int) = i) (hab : a ≤ b) (hb : b ≤ cap) :
    (Instr.sliceBounds isSlice len cap lo hi none).run P w = .ok (a, b, cap) w := by
  rcases hl with ⟨rfl, rfl⟩ | ⟨k, i, rfl, h1⟩ <;> rcases hh with ⟨rfl, rfl⟩ | ⟨k', i', rfl, h2⟩
  · simp [Instr.sliceBounds]
  · cases isSlice <;> simp [Instr.sliceBounds, sliceBound_ok h2 hb]
  · simp [Instr.sliceBounds, sliceBound_ok h1 hab]
  · cases isSlice <;> simp [Instr.sliceBounds, sliceBound_ok h2 hb, sliceBound_ok h1 hab]

theorem bounds3_ok {len cap a b m : Nat} {lo hi mx : Option Value} (hl : (lo = none ∧ a = 0) ∨ ∃ k i, lo = some (.int k i) ∧ (a : Int) = i) (hh : ∃ k i, hi = some (.int k i) ∧ (b : Int) = i) (hm : ∃ k i, mx = some (.int k i) ∧ (m : Int) = i) (hab : a ≤ b) (hb : b ≤ m) (hmc : m ≤ cap) :
    (Instr.sliceBounds true len cap lo hi mx).run P w = .ok (a, b, m) w := by
  obtain ⟨k', i', rfl, h2⟩ := hh
  obtain ⟨k'', i'', rfl, h3⟩ := hm
  rcases hl with ⟨rfl, rfl⟩ | ⟨k, i, rfl, h1⟩
  · simp [Instr.sliceBounds, sliceBound_ok h3 hmc, sliceBound_ok h2 hb]
  · simp [Instr.sliceBounds, sliceBound_ok h3 hmc, sliceBound_ok h2 hb, sliceBound_ok h1 hab]

theorem add_spot {a : Addr} (h : a.spot = none) (n : Nat) : a.add n = ⟨a.block, a.off + n, none⟩ := by
  unfold Addr.add; split
  · rename_i h0; subst h0; cases a; simp_all
  · rfl

theorem flatMap_take {sz : Nat} {es : List AV} (h : ∀ e ∈ es, e.cells.length = sz) (n : Nat) : (es.take n).flatMap AV.cells = (es.flatMap AV.cells).take (n * sz) := by
  induction es generalizing n with
  | nil => simp
  | cons e l ih =>
    cases n with
    | zero => simp
    | succ n =>
      rw [List.take_succ_cons, List.flatMap_cons, List.flatMap_cons, ih (fun x hx => h x (by simp [hx])), List.take_append, h e (by simp), Nat.add_mul, Nat.one_mul, Nat.add_sub_cancel, List.take_of_length_le (l := e.cells) (by rw [h e (by simp)]; omega)]

theorem flatMap_drop {sz : Nat} {es : List AV} (h : ∀ e ∈ es, e.cells.length = sz) (n : Nat) : (es.drop n).flatMap AV.cells = (es.flatMap AV.cells).drop (n * sz) := by
  induction es generalizing n with
  | nil => simp
  | cons e l ih =>
    cases n with
    | zero => simp
    | succ n =>
      rw [List.drop_succ_cons, List.flatMap_cons, ih (fun x hx => h x (by simp [hx])), List.drop_append, h e (by simp), Nat.add_mul, Nat.one_mul, Nat.add_sub_cancel, List.drop_of_length_le (l := e.cells) (by rw [h e (by simp)]; omega), List.nil_append]

/-- A part of a list is a list. -/
theorem V.cut {fl fl' : Fl} {sz a b cap cap' len : Nat} {es : List AV} {ad ad' : Addr} (h : V g w (.list fl sz es) (.slice (some ad) len cap)) (hb : b ≤ es.length) (hab : a ≤ b) (hc : b - a ≤ cap') (hfl : fl' = .sh ∨ fl' = .full ∧ cap' = b - a)
    (had : ad' = ad.add (a * sz) ∨ a = b ∧ ad' = ad) : V g w (.list fl' sz ((es.take b).drop a)) (.slice (some ad') (b - a) cap') := by
  cases h with
  | @list _ _ _ _ _ _ xs _ _ h1 h2 h3 h4 h5 h6 h7 h8 h9 _ =>
  have hlen : ((es.take b).drop a).length = b - a := by rw [List.length_drop, List.length_take]; omega
  have h6' : ∀ e ∈ es, e.cells.length = sz := fun e he => (h6 e he).1
  have hmem : ∀ {e : AV}, e ∈ (es.take b).drop a → e ∈ es := fun he => List.mem_of_mem_take (List.mem_of_mem_drop he)
  have hvl : VL g w (((es.take b).drop a).flatMap AV.cells) ((xs.take (b * sz)).drop (a * sz)) := by
    rw [flatMap_drop (fun e he => h6' e (List.mem_of_mem_take he)), flatMap_take h6']
    exact (h8.takes _).drops _
  have hsp : (es.take b).drop a = [] ∨ ad'.spot = none := by
    rcases h5 with rfl | h5
    · exact .inl (by simp)
    rcases had with rfl | ⟨_, rfl⟩
    · rw [add_spot h5]; exact .inr rfl
    · exact .inr h5
  refine .list hfl hlen.symm hc h4 hsp (fun e he => h6 e (hmem he)) (under_mem.2 fun e he => (under_mem.1 h7) e (hmem he)) hvl ?_ .nil
  intro i v hi
  rw [List.getElem?_drop, List.getElem?_take] at hi
  split at hi
  case isFalse => cases hi
  rename_i hlt
  rcases had with rfl | ⟨rfl, rfl⟩
  · rcases h5 with rfl | h5
    · have hx0 : xs = [] := List.length_eq_zero_iff.1 (by simpa using h8.length)
      rw [hx0] at hi; cases hi
    rw [add_spot h5]
    have := h9 _ _ hi
    rwa [← Nat.add_assoc] at this
  · omega
end
end Go.AM
/-! Slice expressions, lengths, operators, conversions. -/
namespace Go.AM
open Go
set_option linter.unusedVariables false

section
variable {P : Program} {g : G} {w : World}

theorem isCell_cells {c : AV} (h : c.isCell = true) : c.cells = [c] := by
  cases c <;> simp_all [AV.cells, AV.isCell]

theorem flatMap_cells {cs : List AV} (h : ∀ c ∈ cs, c.isCell = true) : cs.flatMap AV.cells = cs := by
  induction cs with
  | nil => rfl
  | cons c l ih => rw [List.flatMap_cons, isCell_cells (h c (by simp)), ih fun x hx => h x (by simp [hx])]; rfl

theorem low_run {x : Option AV} {xv : Option Value} {d n : Nat} (h : bound x d = some n) (hx : ∀ y, x = some y → ∃ v, xv = some v ∧ V g w y v) (hn : x = none → xv = none) :
    (xv = none ∧ n = d) ∨ ∃ k i, xv = some (.int k i) ∧ (n : Int) = i := by
  rcases bound_run h hx hn with ⟨_, h1, h2⟩ | ⟨k, i, h1, _, _, h2⟩
  · exact .inl ⟨h1, h2⟩
  · exact .inr ⟨k, i, h1, h2⟩

theorem bound_some {x : AV} {n : Nat} {xv : Option Value} (h : bound (some x) 0 = some n) (hx : ∀ y, some x = some y → ∃ v, xv = some v ∧ V g w y v) : ∃ k i, xv = some (.int k i) ∧ (n : Int) = i := by
  rcases low_run h hx (by simp) with ⟨h1, _⟩ | h
  · obtain ⟨v, hv, _⟩ := hx x rfl; rw [hv] at h1; cases h1
  · exact h

theorem sliceOf_run {t : TypeId} {x v : AV} {lo hi mx : Option AV} {xv : Value} {lov hiv mxv : Option Value} (h : sliceOf P t x lo hi mx = some v) (hx : V g w x xv)
    (hlo : ∀ y, lo = some y → ∃ v, lov = some v ∧ V g w y v) (hlo' : lo = none → lov = none) (hhi : ∀ y, hi = some y → ∃ v, hiv = some v ∧ V g w y v) (hhi' : hi = none → hiv = none)
    (hmx : ∀ y, mx = some y → ∃ v, mxv = some v ∧ V g w y v) (hmx' : mx = none → mxv = none) :
    ∃ val, (Instr.sliceAt t xv lov hiv mxv).run P w = .ok val w ∧ V g w v val := by
  unfold sliceOf at h
  split at h
  · -- a string
    rename_i l hu
    split at h
    · rename_i a b ha hb
      split at h
      case isFalse => cases h
      rename_i hc
      injection h with h; subst h
      obtain rfl := hmx' rfl
      obtain rfl := hx.sc_inv
      refine ⟨_, ?_, .sc (.str _) .nil⟩
      have hs : (ByteArray.mk l.toArray).size = l.length := by simp [ByteArray.size]
      have := bounds_ok (P := P) (w := w) (isSlice := false) (len := (ByteArray.mk l.toArray).size) (cap := (ByteArray.mk l.toArray).size) (low_run ha hlo hlo') (by rw [hs]; exact low_run hb hhi hhi') hc.1 (by rw [hs]; exact hc.2)
      simp only [Instr.sliceAt, Sem.run_bind, run_underlying hu, Result.andThen_ok, Instr.slice, Sc.toV]
      simp only [Option.isSome_none, Bool.false_eq_true, if_false, Sem.run_bind, this, Result.andThen_ok]
      simp
      congr 1
      apply ByteArray.ext
      simp [List.extract]
      rw [List.drop_take]
    · cases h
  · -- nil
    rename_i e hu
    split at h
    · rename_i ha hb
      split at h
      case isFalse => cases h
      rename_i hc
      injection h with h; subst h
      obtain rfl := hmx' rfl
      obtain rfl := hx.sc_inv
      have := bounds_ok (P := P) (w := w) (isSlice := true) (len := 0) (cap := 0) (low_run ha hlo hlo') (low_run hb hhi hhi') (Nat.le_refl _) (Nat.le_refl _)
      refine ⟨.slice none 0 0, ?_, .sc .nilS .nil⟩
      simp [Instr.sliceAt, run_underlying hu, Instr.slice, Sc.toV, this, run_sizeOf hc]
    · cases h
  · -- a list
    rename_i e fl sz es hu
    split at h
    · cases h
    split at h
    · rename_i a b ha hb
      split at h
      case isFalse => cases h
      rename_i hc
      injection h with h; subst h
      obtain rfl := hmx' rfl
      have h0 : P.cellsOf e ≠ 0 := by
        have := hx.list_pos
        omega
      rcases hx.list_inv with ⟨ad, cap, rfl, hle⟩ | ⟨rfl, rfl, rfl⟩
      rotate_left
      · obtain ⟨hc1, hc2, hc3⟩ := hc
        have hb0 : b = 0 := by simpa using hc2
        have ha0 : a = 0 := by omega
        subst hb0; subst ha0
        have := bounds_ok (P := P) (w := w) (isSlice := true) (len := 0) (cap := 0) (low_run ha hlo hlo') (low_run hb hhi hhi') (Nat.le_refl _) (Nat.le_refl _)
        refine ⟨.slice none 0 0, ?_, ?_⟩
        · simp [Instr.sliceAt, run_underlying hu, Instr.slice, this, run_sizeOf h0]
        · simpa using hx
      have hfull : fl = .full → cap = es.length := by
        rintro rfl
        cases hx with
        | list h1 h2 _ _ _ _ _ _ _ _ => rcases h1 with h1 | ⟨_, h1⟩ <;> simp_all
      have := bounds_ok (P := P) (w := w) (isSlice := true) (len := es.length) (cap := cap) (low_run ha hlo hlo') (low_run hb hhi hhi') hc.1 (Nat.le_trans hc.2.1 hle)
      refine ⟨.slice (some (if cap = a then ad else ad.add (a * P.cellsOf e))) (b - a) (cap - a), ?_, ?_⟩
      · simp [Instr.sliceAt, run_underlying hu, Instr.slice, this, run_sizeOf h0]
        split <;> rfl
      · obtain ⟨hc1, hc2, hc3⟩ := hc
        subst hc3
        refine hx.cut hc2 hc1 (by omega) ?_ ?_
        · split
          · rename_i hf; exact .inr ⟨rfl, by rw [hfull hf.1, hf.2]⟩
          · exact .inl rfl
        · split
          · exact .inr ⟨by omega, rfl⟩
          · exact .inl rfl
    · rename_i m a b ha hb
      split at h
      · rename_i hi' m' hm
        split at h
        case isFalse => cases h
        rename_i hc
        injection h with h; subst h
        have h0 : P.cellsOf e ≠ 0 := by
          have := hx.list_pos
          omega
        obtain ⟨hc1, hc2, hc3, hc4⟩ := hc
        have hbb : ∃ k i, hiv = some (.int k i) ∧ (b : Int) = i := by
          rcases low_run hb hhi hhi' with ⟨h1, _⟩ | h
          · obtain ⟨v, hv, _⟩ := hhi _ rfl; rw [hv] at h1; cases h1
          · exact h
        have hmm := bound_some hm hmx
        have hms : mxv.isSome = true := by obtain ⟨k, i, h, _⟩ := hmm; rw [h]; rfl
        rcases hx.list_inv with ⟨ad, cap, rfl, hle⟩ | ⟨rfl, rfl, rfl⟩
        rotate_left
        · have hm0 : m' = 0 := by simpa using hc3
          have hb0 : b = 0 := by omega
          have ha0 : a = 0 := by omega
          subst hm0; subst hb0; subst ha0
          have := bounds3_ok (P := P) (w := w) (len := 0) (cap := 0) (low_run ha hlo hlo') hbb hmm (Nat.le_refl _) (Nat.le_refl _) (Nat.le_refl _)
          refine ⟨.slice none 0 0, ?_, ?_⟩
          · simp [Instr.sliceAt, run_underlying hu, Instr.slice, this, run_sizeOf h0]
          · simpa using hx
        have := bounds3_ok (P := P) (w := w) (len := es.length) (cap := cap) (low_run ha hlo hlo') hbb hmm hc1 (Nat.le_of_eq hc2) (Nat.le_trans hc3 hle)
        refine ⟨.slice (some (if m' = a then ad else ad.add (a * P.cellsOf e))) (b - a) (m' - a), ?_, ?_⟩
        · simp [Instr.sliceAt, run_underlying hu, Instr.slice, this, run_sizeOf h0]
          split <;> rfl
        · subst hc4
          have hfl : ∀ {c : Prop} [Decidable c], (if c then Fl.sh else Fl.full) = .sh ∨ (if c then Fl.sh else Fl.full) = .full ∧ m' - a = b - a := fun {c} _ => by
            by_cases h : c
            · rw [if_pos h]; exact .inl rfl
            · rw [if_neg h]; exact .inr ⟨rfl, by omega⟩
          refine hx.cut (by omega) hc1 (by omega) hfl ?_
          split
          · exact .inr ⟨by omega, rfl⟩
          · exact .inl rfl
      · cases h
    · cases h
  · -- a row
    rename_i e r off len cap hu
    split at h
    · rename_i a b ha hb
      split at h
      case isFalse => cases h
      rename_i hc
      injection h with h; subst h
      obtain rfl := hmx' rfl
      obtain ⟨bl, c, rfl, hr, h1, h2⟩ := hx.row_inv
      have := bounds_ok (P := P) (w := w) (isSlice := true) (len := len) (cap := c) (low_run ha hlo hlo') (low_run hb hhi hhi') hc.1 (by omega)
      refine ⟨.slice (some ⟨bl, off + a * P.cellsOf e, none⟩) (b - a) (c - a), ?_, .row hr (by omega) (by omega) .nil⟩
      have hne : ¬ c = a := by omega
      simp [Instr.sliceAt, run_underlying hu, Instr.slice, this, run_sizeOf hc.2.2.2, hne, Addr.add_lit]
    · rename_i m a b ha hb
      split at h
      · rename_i hi' m' hm
        split at h
        case isFalse => cases h
        rename_i hc
        injection h with h; subst h
        obtain ⟨bl, c, rfl, hr, h1, h2⟩ := hx.row_inv
        obtain ⟨hc1, hc2, hc3, hc4⟩ := hc
        have hbb : ∃ k i, hiv = some (.int k i) ∧ (b : Int) = i := by
          rcases low_run hb hhi hhi' with ⟨h1, _⟩ | h
          · obtain ⟨v, hv, _⟩ := hhi _ rfl; rw [hv] at h1; cases h1
          · exact h
        have hmm := bound_some hm hmx
        have := bounds3_ok (P := P) (w := w) (len := len) (cap := c) (low_run ha hlo hlo') hbb hmm (Nat.le_of_eq hc1) (Nat.le_of_eq hc2) (by omega)
        refine ⟨.slice (some ⟨bl, off, none⟩) (b - a) (m' - a), ?_, ?_⟩
        · have hne : m' = a := by omega
          simp [Instr.sliceAt, run_underlying hu, Instr.slice, this, run_sizeOf hc4, hne]
        · have e1 : b - a = 0 := by omega
          have e2 : m' - a = 0 := by omega
          rw [e1, e2]
          exact .list (xs := []) (.inr ⟨rfl, rfl⟩) rfl (Nat.le_refl _) (by omega) (.inr rfl) (fun _ h => by cases h) rfl .nil (fun i v hi => by simp at hi) .nil
      · cases h
    · cases h
  · -- an array behind a pointer
    rename_i n e r off hu
    split at h
    · rename_i a b ha hb
      split at h
      case isFalse => cases h
      rename_i hc
      injection h with h; subst h
      obtain rfl := hmx' rfl
      obtain ⟨bl, rfl, hr⟩ := hx.ptr_inv
      have := bounds_ok (P := P) (w := w) (isSlice := false) (len := n) (cap := n) (low_run ha hlo hlo') (low_run hb hhi hhi') hc.1 hc.2.1
      refine ⟨.slice (some ⟨bl, off + a * P.cellsOf e, none⟩) (b - a) (n - a), ?_, .row hr (by omega) (Nat.le_refl _) .nil⟩
      have hne : ¬ n = a := by omega
      simp [Instr.sliceAt, run_underlying hu, Instr.sureAddr, this, run_sizeOf hc.2.2.2, hne, Addr.add_lit]
    · cases h
  · -- an array in a list
    rename_i n e cs hu
    split at h
    · rename_i a b ha hb
      split at h
      case isFalse => cases h
      rename_i hc
      injection h with h; subst h
      obtain rfl := hmx' rfl
      obtain ⟨ad, rfl⟩ := hx.rop_inv
      have := bounds_ok (P := P) (w := w) (isSlice := false) (len := n) (cap := n) (low_run ha hlo hlo') (low_run hb hhi hhi') hc.1 hc.2.1
      refine ⟨.slice (some (ad.add a)) (b - a) (n - a), ?_, ?_⟩
      · have hne : ¬ n = a := by omega
        have h1 : P.cellsOf e ≠ 0 := by omega
        simp [Instr.sliceAt, run_underlying hu, Instr.sureAddr, this, run_sizeOf h1, hne, hc.2.2.2.1]
      · have hd := V.rop_drop (n := a) hx
        cases hd with
        | @rop _ _ xs _ _ h1 h2 h3 h4 h5 _ =>
        have hel : (cs.take b).drop a = (cs.drop a).take (b - a) := by rw [List.drop_take]
        rw [hel]
        have hsub : ∀ c ∈ (cs.drop a).take (b - a), c.isCell = true := fun c hc => h2 c (List.mem_of_mem_take hc)
        refine .list (xs := xs.take (b - a)) (.inl rfl) (by rw [List.length_take, List.length_drop]; omega) (by omega) (Nat.one_pos) (.inr h1) (fun c hc => ?_) (under_mem.2 fun c hc => (under_mem.1 h3) c (List.mem_of_mem_take hc)) (by rw [flatMap_cells hsub]; exact h4.takes _) (fun i v hi => ?_) .nil
        · rw [isCell_cells (hsub c hc)]; exact ⟨rfl, fun x hx => by simp at hx; subst hx; exact hsub _ hc⟩
        · rw [List.getElem?_take] at hi
          split at hi
          · exact h5 i v hi
          · cases hi
    · cases h
  · cases h
end
end Go.AM
/-! Operators, conversions, lengths, lookups, struct literals. -/
namespace Go.AM
open Go
set_option linter.unusedVariables false

section
variable {P : Program} {g : G} {w : World} {ow : Own} {σ : St}

theorem ofVs_V : ∀ {vs : List Value} {cs : List AV}, Sc.ofVs vs = some cs → VL g w cs vs ∧ (∀ c ∈ cs, c.isCell = true) ∧ AV.under.go 0 cs = true
  | [], cs, h => by simp [Sc.ofVs] at h; subst h; exact ⟨.nil, by simp, rfl⟩
  | v :: vs, cs, h => by
    simp only [Sc.ofVs] at h
    split at h
    · rename_i x l h1 h2
      injection h with h; subst h
      obtain ⟨k1, k2, k3⟩ := ofVs_V h2
      refine ⟨?_, ?_, ?_⟩
      · rw [← Sc.toV_ofV h1]; exact .sc x k1
      · intro c hc
        rcases List.mem_cons.1 hc with rfl | hc
        · rfl
        · exact k2 c hc
      · simp [AV.under.go, AV.under, k3]
    · cases h

theorem ofPlain_V {v : Value} {z : AV} (h : AV.ofPlain v = some z) : V g w z v ∧ VL g w z.cells v.cells.toList ∧ (∀ c ∈ z.cells, c.isCell = true) ∧ AV.under.go 0 z.cells = true ∧ AV.under 0 z = true ∧ z.common = true := by
  unfold AV.ofPlain at h
  split at h
  · rename_i cs
    cases h1 : Sc.ofVs cs.toList with
    | none => simp [h1] at h
    | some l =>
      simp [h1] at h; subst h
      obtain ⟨k1, k2, k3⟩ := ofVs_V (g := g) (w := w) h1
      exact ⟨.agg k2 k1 .nil, k1, k2, k3, by simpa [AV.under] using k3, rfl⟩
  · rename_i hne
    cases h1 : Sc.ofV v with
    | none => simp [h1] at h
    | some x =>
      simp [h1] at h; subst h
      have hv := Sc.toV_ofV h1
      have hc : v.cells = #[v] := by
        cases v with
        | agg cs => exact (hne cs rfl).elim
        | _ => rfl
      have hV : V g w (.s x) v := by rw [← hv]; exact .sc x .nil
      exact ⟨hV, by rw [hc]; exact hV, by intro c hc; simp [AV.cells] at hc; subst hc; rfl, rfl, rfl, rfl⟩

theorem scalars_eq : ∀ {cs : List AV} {vs ls : List Value}, VL g w cs vs → scalars cs = some ls → vs = ls
  | [], vs, ls, h, hs => by simp [scalars] at hs; subst hs; exact h.nil_left
  | c :: cs, vs, ls, h, hs => by
    obtain ⟨v, vs', rfl, h1, h2⟩ := h.cons_left
    cases c with
    | s x =>
      simp only [scalars] at hs
      cases hl : scalars cs with
      | none => simp [hl] at hs
      | some l =>
        simp [hl] at hs; subst hs
        rw [h1.sc_inv, scalars_eq h2 hl]
    | _ => simp [scalars] at hs

theorem toV_eq {x : AV} {v a : Value} (h : V g w x v) (hx : x.toV = some a) : v = a := by
  cases x with
  | s x => simp [AV.toV] at hx; subst hx; exact h.sc_inv
  | agg cs =>
    obtain ⟨xs, rfl, _, h1⟩ := h.agg_inv
    simp only [AV.toV] at hx
    cases hl : scalars cs with
    | none => simp [hl] at hx
    | some l =>
      simp [hl] at hx; subst hx
      rw [← scalars_eq h1 hl]
  | _ => simp [AV.toV] at hx

theorem PV.toV {o : Nat → Nat → Prop} {x : AV} {v a : Value} (h : PV g w o x v) (hx : x.toV = some a) : v = a := by
  refine toV_eq (h.plain ?_) hx
  cases x with
  | list fl sz es => simp [AV.toV] at hx
  | _ => rfl

theorem refKind_value {o : Nat → Nat → Prop} {x : AV} {v : Value} {k : Nat} (h : PV g w o x v) (hk : x.refKind = some k) :
    (k = 0 ∧ ∃ a, v = .pointer (some a)) ∨ (k = 1 ∧ ∃ a n c, v = .slice (some a) n c) ∨ (k = 2 ∧ ∃ b, v = .map (some b)) ∨ (k = 3 ∧ ∃ f xs ys, v = .func f xs ys) := by
  have hlist : ∀ fl sz es, x = .list fl sz es → (fl = .sh → es ≠ []) ∧ k = 1 := by
    rintro fl sz es rfl
    cases fl <;> cases es <;> simp [AV.refKind] at hk ⊢ <;> omega
  cases x <;> first | (simp only [AV.refKind] at hk; injection hk with hk; subst hk) | (simp [AV.refKind] at hk; done) | skip
  case ptr r off => obtain ⟨b, rfl, _⟩ := V.ptr_inv h; exact .inl ⟨rfl, _, rfl⟩
  case rop cs => obtain ⟨a, rfl⟩ := V.rop_inv h; exact .inl ⟨rfl, _, rfl⟩
  case list fl sz es =>
    obtain ⟨hne, hk1⟩ := hlist _ _ _ rfl
    refine .inr (.inl ⟨hk1, ?_⟩)
    cases fl with
    | own => obtain ⟨_, a, n, c, rfl, _⟩ := h; exact ⟨_, _, _, rfl⟩
    | uniq => obtain ⟨a, c, xs, u⟩ := h; exact ⟨_, _, _, u.val⟩
    | sh =>
      rcases V.list_inv h with ⟨a, c, rfl, _⟩ | ⟨_, h2, _⟩
      · exact ⟨_, _, _, rfl⟩
      · exact (hne rfl h2).elim
    | full =>
      rcases V.list_inv h with ⟨a, c, rfl, _⟩ | ⟨h, _⟩
      · exact ⟨_, _, _, rfl⟩
      · cases h
  case row r off len cap => obtain ⟨b, c, rfl, _⟩ := V.row_inv h; exact .inr (.inl ⟨rfl, _, _, _, rfl⟩)
  case map n => obtain ⟨b, rfl, _⟩ := V.map_inv h; exact .inr (.inr (.inl ⟨rfl, _, rfl⟩))
  case fn f p c => obtain ⟨xs, ys, rfl, _⟩ := V.fn_inv h; exact .inr (.inr (.inr ⟨rfl, _, _, _, rfl⟩))

theorem nilKind_value {o : Nat → Nat → Prop} {x : AV} {v : Value} {k : Nat} (h : PV g w o x v) (hk : x.nilKind = some k) :
    (k = 0 ∧ v = .pointer none) ∨ (k = 1 ∧ v = .slice none 0 0) ∨ (k = 2 ∧ v = .map none) ∨ (k = 3 ∧ v = .nilFunc) := by
  cases x <;> simp only [AV.nilKind] at hk <;> try (cases hk; done)
  rename_i y
  have hv := V.sc_inv h
  cases y <;> simp at hk <;> subst hk <;> subst hv <;> simp [Sc.toV]

theorem equal_of {t : TypeId} {x y : Value} {b : Bool} (h : ∀ d, (Op.equalIn (d + 1) t x y).run P w = .ok b w) : (Op.equal t x y).run P w = .ok b w := h 9999

theorem eqGuard_quiet {a b : Value} (h1 : ∀ c, a ≠ .agg c) (h2 : a ≠ .nilIface) (op : BinOp) (t : TypeId) (xo yo : Operand) : (eqGuard op t xo yo a b).run P w = .ok () w := by
  unfold eqGuard
  cases op <;> cases a <;> first | rfl | (exact (h1 _ rfl).elim) | (exact (h2 rfl).elim)

theorem cmp_of {t : TypeId} {x y : Value} (h : (Op.equal t x y).run P w = .ok false w) (h1 : Go.binOp .eql t x y = do pure (.bool (← Op.equal t x y))) (h2 : Go.binOp .neq t x y = do pure (.bool (!(← Op.equal t x y)))) :
    (Go.binOp .eql t x y).run P w = .ok (.bool false) w ∧ (Go.binOp .neq t x y).run P w = .ok (.bool true) w := by
  rw [h1, h2]
  constructor <;> simp [h]

theorem oneNil_run {t : TypeId} {x y : AV} {xv yv : Value} {o o' : Nat → Nat → Prop} (h : oneNil P t x y = true) (hx : PV g w o x xv) (hy : PV g w o' y yv) :
    (∀ op xo yo, (eqGuard op t xo yo xv yv).run P w = .ok () w) ∧ (Go.binOp .eql t xv yv).run P w = .ok (.bool false) w ∧ (Go.binOp .neq t xv yv).run P w = .ok (.bool true) w := by
  unfold oneNil at h
  split at h
  case h_2 => cases h
  rename_i k ht
  have hu : (k = 0 ∧ ∃ e, P.underlying t = some (.pointer e)) ∨ (k = 1 ∧ ∃ e, P.underlying t = some (.slice e)) ∨ (k = 2 ∧ ∃ a b, P.underlying t = some (.map a b)) ∨ (k = 3 ∧ ∃ a b c, P.underlying t = some (.func a b c)) := by
    unfold typeKind at ht
    split at ht <;> simp at ht <;> subst ht <;> simp_all
  simp only [Bool.or_eq_true, Bool.and_eq_true, beq_iff_eq] at h
  rcases h with ⟨h1, h2⟩ | ⟨h1, h2⟩
  · rcases hu with ⟨rfl, e, hu⟩ | ⟨rfl, e, hu⟩ | ⟨rfl, e, e', hu⟩ | ⟨rfl, e, e', e'', hu⟩ <;>
    rcases refKind_value hx h1 with ⟨h3, a, rfl⟩ | ⟨h3, a, n, c, rfl⟩ | ⟨h3, b, rfl⟩ | ⟨h3, f, xs, ys, rfl⟩ <;> try (cases h3; done)
    all_goals (rcases nilKind_value hy h2 with ⟨h4, rfl⟩ | ⟨h4, rfl⟩ | ⟨h4, rfl⟩ | ⟨h4, rfl⟩ <;> try (cases h4; done))
    all_goals exact ⟨fun op xo yo => eqGuard_quiet (by simp) (by simp) op t xo yo, cmp_of (equal_of fun d => by simp only [Op.equalIn, Sem.run_bind, run_underlying hu, Result.andThen_ok]; rfl) rfl rfl⟩
  · rcases hu with ⟨rfl, e, hu⟩ | ⟨rfl, e, hu⟩ | ⟨rfl, e, e', hu⟩ | ⟨rfl, e, e', e'', hu⟩ <;>
    rcases refKind_value hy h2 with ⟨h3, a, rfl⟩ | ⟨h3, a, n, c, rfl⟩ | ⟨h3, b, rfl⟩ | ⟨h3, f, xs, ys, rfl⟩ <;> try (cases h3; done)
    all_goals (rcases nilKind_value hx h1 with ⟨h4, rfl⟩ | ⟨h4, rfl⟩ | ⟨h4, rfl⟩ | ⟨h4, rfl⟩ <;> try (cases h4; done))
    all_goals exact ⟨fun op xo yo => eqGuard_quiet (by simp) (by simp) op t xo yo, cmp_of (equal_of fun d => by simp only [Op.equalIn, Sem.run_bind, run_underlying hu, Result.andThen_ok]; rfl) rfl rfl⟩

theorem binOp_run {op : BinOp} {t : TypeId} {xo yo : Operand} {x y v : AV} {xv yv : Value} {o o' : Nat → Nat → Prop} (h : AM.binOp P op t xo yo x y = some v) (hx : PV g w o x xv) (hy : PV g w o' y yv) :
    ∃ val, (do eqGuard op t xo yo xv yv; Go.binOp op t xv yv : Sem Value).run P w = .ok val w ∧ V g w v val := by
  unfold AM.binOp at h
  split at h
  · rename_i a b ha hb
    obtain rfl := hx.toV ha
    obtain rfl := hy.toV hb
    cases hv : val P (do eqGuard op t xo yo xv yv; Go.binOp op t xv yv) with
    | none => rw [hv] at h; cases h
    | some z =>
      rw [hv] at h
      exact ⟨z, val_run hv w, (ofPlain_V h).1⟩
  · -- a value against nil
    split at h
    case isFalse => cases h
    rename_i hn
    have hq := oneNil_run (P := P) hn hx hy
    split at h
    · injection h with h; subst h
      exact ⟨.bool false, by simp [hq.1 .eql xo yo, hq.2.1], .sc (.bool false) .nil⟩
    · injection h with h; subst h
      exact ⟨.bool true, by simp [hq.1 .neq xo yo, hq.2.2], .sc (.bool true) .nil⟩
    · cases h

theorem unOp_run {op : UnOp} {x v : AV} {xv : Value} {o : Nat → Nat → Prop} (h : unOp P op x = some v) (hx : PV g w o x xv) : ∃ val, (Op.unary op xv).run P w = .ok val w ∧ V g w v val := by
  unfold unOp at h
  split at h
  case h_2 => cases h
  rename_i y
  obtain rfl := V.sc_inv hx
  cases hv : val P (Op.unary op y.toV) with
  | none => rw [hv] at h; cases h
  | some z => rw [hv] at h; exact ⟨z, val_run hv w, (ofPlain_V h).1⟩

theorem V_len_slice {o : Nat → Nat → Prop} {fl : Fl} {sz : Nat} {es : List AV} {v : Value} (h : PV g w o (.list fl sz es) v) : ∃ a cap, v = .slice a es.length cap ∧ es.length ≤ cap ∧ (fl = .full → cap = es.length) ∧ 0 < sz ∧ (a = none → fl = .sh ∧ es = [] ∧ cap = 0) := by
  have key : ∀ {fl : Fl} {v : Value}, V g w (.list fl sz es) v → ∃ a cap, v = .slice a es.length cap ∧ es.length ≤ cap ∧ (fl = .full → cap = es.length) ∧ 0 < sz ∧ (a = none → fl = .sh ∧ es = [] ∧ cap = 0) := by
    intro fl v h
    cases h with
    | @list _ _ _ a len cap _ _ _ h1 h2 h3 h4 h5 h6 h7 h8 h9 _ =>
      subst h2
      refine ⟨_, _, rfl, h3, fun hf => ?_, h4, fun h => by cases h⟩
      rcases h1 with h1 | ⟨_, h1⟩
      · rw [hf] at h1; cases h1
      · exact h1
    | lnil h0 _ => exact ⟨none, 0, rfl, Nat.le_refl _, fun h => (by cases h), h0, fun _ => ⟨rfl, rfl, rfl⟩⟩
  cases fl with
  | own =>
    obtain ⟨h1, a', len', cap', e', _⟩ := h
    obtain ⟨a, cap, e, h2, _, h3, h4⟩ := key h1
    refine ⟨a, cap, e, h2, fun h => (by cases h), h3, fun ha => ?_⟩
    rw [e, ha] at e'; cases e'
  | uniq => obtain ⟨a, c, xs, u⟩ := h; exact ⟨some a, c, u.val, u.le, fun h => (by cases h), u.pos, fun h => by cases h⟩
  | sh => exact key h
  | full => exact key h

theorem lenOf_run {t : TypeId} {x : AV} {xv : Value} {o : Nat → Nat → Prop} {n : Nat} {ty : TypeId} (s : SS g w ow σ) (h : lenOf P t x σ = some n) (hx : PV g w o x xv) : (Builtin.len_ #[t] ty #[xv]).run P w = .ok (goInt n) w := by
  unfold lenOf at h
  split at h <;> try (injection h with h; subst h)
  · rename_i l hu; obtain rfl := V.sc_inv hx; have hs : (ByteArray.mk l.toArray).size = l.length := by simp [ByteArray.size]
    simp [Builtin.len_, run_underlying hu, Sc.toV, hs]
  · rename_i e hu; obtain rfl := V.sc_inv hx; simp [Builtin.len_, run_underlying hu, Sc.toV]
  · rename_i e fl sz es hu
    obtain ⟨a, cap, rfl, _⟩ := V_len_slice hx
    simp [Builtin.len_, run_underlying hu]
  · rename_i e r off len cap hu
    obtain ⟨b, c, rfl, _⟩ := V.row_inv hx
    simp [Builtin.len_, run_underlying hu]
  · rename_i k e hu; obtain rfl := V.sc_inv hx; simp [Builtin.len_, run_underlying hu, Sc.toV]
  · rename_i k e m hu
    split at h
    · rename_i es c hm
      injection h with h; subst h
      obtain ⟨b, xs, h1, h2⟩ := s.maps _ _ _ hm
      obtain ⟨b', rfl, h3⟩ := V.map_inv hx
      rw [h1] at h3; injection h3 with h3; subst h3
      simp [Builtin.len_, run_underlying hu, getObj, Sem.run, h2.obj, h2.size]
    · cases h
  · rename_i m e cs hu
    obtain ⟨xs, rfl, _⟩ := V.agg_inv hx
    simp [Builtin.len_, run_underlying hu]
  · cases h

theorem capOf_run {t : TypeId} {x : AV} {xv : Value} {o : Nat → Nat → Prop} {n : Nat} {ty : TypeId} (h : capOf P t x = some n) (hx : PV g w o x xv) : (Builtin.cap_ #[t] ty #[xv]).run P w = .ok (goInt n) w := by
  unfold capOf at h
  split at h <;> try (injection h with h; subst h)
  · rename_i e hu; obtain rfl := V.sc_inv hx; simp [Builtin.cap_, run_underlying hu, Sc.toV]
  · rename_i e sz es hu
    obtain ⟨a, cap, rfl, _, h1, _⟩ := V_len_slice hx
    simp [Builtin.cap_, run_underlying hu, h1 rfl]
  · cases h

/-! Struct and array literals. -/
theorem foldl_set (off : Nat) : ∀ (vs : List Value) (k : Nat) (cells : Array Value), off + k + vs.length ≤ cells.size →
    ((vs.zipIdx k).foldl (fun cs (p : Value × Nat) => cs.setIfInBounds (off + p.2) p.1) cells).size = cells.size ∧
    ∀ (i : Nat), ((vs.zipIdx k).foldl (fun cs (p : Value × Nat) => cs.setIfInBounds (off + p.2) p.1) cells)[i]? = if off + k ≤ i ∧ i < off + k + vs.length then vs[i - (off + k)]? else cells[i]?
  | [], k, cells, _ => ⟨rfl, fun i => by simp; intro h1 h2; omega⟩
  | v :: vs, k, cells, h => by
    simp only [List.length_cons] at h
    obtain ⟨h1, h2⟩ := foldl_set off vs (k + 1) (cells.setIfInBounds (off + k) v) (by simp; omega)
    simp only [List.zipIdx_cons, List.foldl_cons]
    refine ⟨by rw [h1]; simp, fun i => ?_⟩
    rw [h2 i]
    by_cases e : i = off + k
    · subst e
      rw [if_neg (by omega), if_pos (by simp), Nat.sub_self, Array.getElem?_setIfInBounds_self_of_lt (by omega)]; rfl
    · by_cases h4 : off + (k + 1) ≤ i ∧ i < off + (k + 1) + vs.length
      · rw [if_pos h4, if_pos (by simp only [List.length_cons]; omega), show i - (off + k) = (i - (off + (k + 1))) + 1 by omega, List.getElem?_cons_succ]
      · rw [if_neg h4, if_neg (by simp only [List.length_cons]; omega), Array.getElem?_setIfInBounds_ne (Ne.symm e)]

theorem V.cells {x : AV} {v : Value} (h : V g w x v) (hf : x.fit = true) : VL g w x.cells v.cells.toList ∧ ∀ c ∈ x.cells, c.isCell = true := by
  have one : (∀ cs, v ≠ .agg cs) → x.cells = [x] → x.isCell = true → VL g w x.cells v.cells.toList ∧ ∀ c ∈ x.cells, c.isCell = true := by
    intro h1 h2 h3
    have hv : v.cells = #[v] := by cases v <;> first | rfl | exact (h1 _ rfl).elim
    rw [h2, hv]
    exact ⟨h, fun c hc => by simp at hc; subst hc; exact h3⟩
  cases x with
  | agg cs => obtain ⟨xs, rfl, h0, h1⟩ := h.agg_inv; exact ⟨h1, h0⟩
  | undef => simp [AV.fit] at hf
  | tup vs => simp [AV.fit] at hf
  | s y => obtain rfl := h.sc_inv; exact one (fun cs => by cases y <;> simp [Sc.toV]) rfl rfl
  | list fl sz es =>
    obtain ⟨a, cap, rfl, _⟩ := V_len_slice (o := fun _ _ => False) (PV.of h)
    exact one (by simp) rfl (by cases fl <;> first | rfl | (cases h with | list h1 => simp at h1))
  | rop cs => obtain ⟨a, rfl⟩ := h.rop_inv; exact one (by simp) rfl rfl
  | ptr r off => obtain ⟨b, rfl, _⟩ := h.ptr_inv; exact one (by simp) rfl rfl
  | row r off len cap => obtain ⟨b, c, rfl, _⟩ := h.row_inv; exact one (by simp) rfl rfl
  | map n => obtain ⟨b, rfl, _⟩ := h.map_inv; exact one (by simp) rfl rfl
  | fn f p c => obtain ⟨xs, ys, rfl, _⟩ := h.fn_inv; exact one (by simp) rfl rfl
  | yield n =>
    have : ∃ b, v = .func (.yield b) #[] #[] := by cases h with | yield _ _ => exact ⟨_, rfl⟩
    obtain ⟨b, rfl⟩ := this; exact one (by simp) rfl rfl

theorem fill_run (place : Nat → Option (Nat × Nat)) : ∀ (parts : List (Nat × AV)) (vparts : List (Nat × Value)) (cs cs' : List AV) (xs : Array Value),
    fillA place cs parts = some cs' → parts.length = vparts.length → (∀ (j : Nat) p q, parts[j]? = some p → vparts[j]? = some q → p.1 = q.1 ∧ V g w p.2 q.2) → VL g w cs xs.toList → (∀ c ∈ cs, c.isCell = true) →
    ∃ xs', Instr.fill place xs vparts = some xs' ∧ VL g w cs' xs'.toList ∧ (∀ c ∈ cs', c.isCell = true)
  | [], vparts, cs, cs', xs, h, hl, hp, hx, hc => by
    simp only [fillA] at h; injection h with h; subst h
    have : vparts = [] := by cases vparts with | nil => rfl | cons _ _ => simp at hl
    subst this
    exact ⟨xs, rfl, hx, hc⟩
  | (i, v) :: rest, [], cs, cs', xs, h, hl, hp, hx, hc => by simp at hl
  | (i, v) :: rest, (i', u) :: vrest, cs, cs', xs, h, hl, hp, hx, hc => by
    obtain ⟨e1, hv⟩ := hp 0 _ _ rfl rfl
    dsimp only at e1 hv
    subst e1
    simp only [fillA] at h
    split at h
    · cases h
    rename_i off size hpl
    split at h
    · cases h
    rename_i hcond
    simp only [not_or, Decidable.not_not, Bool.not_eq_true'] at hcond
    obtain ⟨h1, h2, h3⟩ := hcond
    have hf : v.fit = true := by simpa using h3
    obtain ⟨k1, k2⟩ := hv.cells hf
    have hus : u.cells.size = size := by have := k1.length; simp at this; omega
    have hxs : xs.size = cs.length := by have := hx.length; simpa using this
    obtain ⟨m1, m2⟩ := foldl_set off u.cells.toList 0 xs (by simp; omega)
    simp only [Nat.add_zero, Array.length_toList, hus] at m1 m2
    -- the cells behind this part
    let xs2 := u.cells.toList.zipIdx.foldl (fun cs (p : Value × Nat) => cs.setIfInBounds (off + p.2) p.1) xs
    have hlen : (cs.take off ++ v.cells ++ cs.drop (off + size)).length = cs.length := by simp; omega
    have hvl : VL g w (cs.take off ++ v.cells ++ cs.drop (off + size)) xs2.toList := by
      refine VL.of_get (by rw [hlen, Array.length_toList]; exact m1.trans hxs) fun j c hj => ?_
      have hm := m2 j
      have h2' : xs2.toList[j]? = if off ≤ j ∧ j < off + size then u.cells.toList[j - off]? else xs[j]? := by rw [Array.getElem?_toList]; exact hm
      have ht : (cs.take off).length = off := by rw [List.length_take]; omega
      rw [List.append_assoc] at hj
      rw [h2']
      by_cases e : j < off
      · rw [List.getElem?_append_left (by omega), List.getElem?_take_of_lt e] at hj
        rw [if_neg (by omega)]
        obtain ⟨z, hz, hz'⟩ := hx.get hj
        exact ⟨z, by simpa using hz, hz'⟩
      · rw [List.getElem?_append_right (by omega), ht] at hj
        by_cases e2 : j < off + size
        · rw [List.getElem?_append_left (by omega)] at hj
          rw [if_pos (by omega)]
          exact k1.get hj
        · rw [List.getElem?_append_right (by omega), List.getElem?_drop] at hj
          rw [if_neg (by omega)]
          rw [show off + size + (j - off - v.cells.length) = j by omega] at hj
          obtain ⟨z, hz, hz'⟩ := hx.get hj
          exact ⟨z, by simpa using hz, hz'⟩
    have hcc : ∀ c ∈ cs.take off ++ v.cells ++ cs.drop (off + size), c.isCell = true := by
      intro c hcm
      rcases List.mem_append.1 hcm with hcm | hcm
      · rcases List.mem_append.1 hcm with hcm | hcm
        · exact hc c (List.mem_of_mem_take hcm)
        · exact k2 c hcm
      · exact hc c (List.mem_of_mem_drop hcm)
    obtain ⟨xs', r1, r2, r3⟩ := fill_run place rest vrest _ cs' xs2 h (by simpa using hl) (fun j p q hj hq => hp (j + 1) p q hj hq) hvl hcc
    refine ⟨xs', ?_, r2, r3⟩
    have hz : u.cells.zipIdx.foldl (fun cs (p : Value × Nat) => cs.setIfInBounds (off + p.2) p.1) xs = xs2 := by
      rw [← Array.foldl_toList, Array.toList_zipIdx]
    simp only [Instr.fill, hpl, hus, ne_eq, not_true_eq_false, decide_false, Bool.false_or, decide_eq_true_eq]
    rw [if_neg (by omega)]
    rw [← r1]
    congr 1
end
end Go.AM
/-! Literals, reading and writing memory. -/
namespace Go.AM
open Go
set_option linter.unusedVariables false

section
variable {P : Program} {g g' : G} {w w' : World} {ow ow' ow1 : Own} {σ σ' : St} {fr fr' : Fr} {tm : Array Value} {a : Act}

theorem zeroA_run {t : TypeId} {z : AV} (h : zeroA P t = some z) : ∃ v, (∀ w, (zeroValue t).run P w = .ok v w) ∧ AV.ofPlain v = some z ∧ ((P.info? t).bind (·.zero)) = some v := by
  unfold zeroA at h
  cases hi : P.info? t with
  | none => simp [hi] at h
  | some i =>
    cases hz : i.zero with
    | none => simp [hi, hz] at h
    | some v => simp [hi, hz] at h; exact ⟨v, fun w => by simp [zeroValue, typeInfo, hi, hz], h, by simp [hz]⟩

theorem PV.look {o : Nat → Nat → Prop} {x : AV} {v : Value} (h : PV g w o x v) : V g w x.look v := by
  cases x with
  | list fl sz es =>
    cases fl with
    | own => exact h.1
    | uniq => exact VL.undef v .nil
    | sh => exact h
    | full => exact h
  | _ => exact h

theorem SF.seen (s : SF g w ow fr a.tmps) (x : Operand) : V g w (seen fr x) (a.eval x) := (s.opnd x).look

theorem look_isCell {x : AV} (h : x.isCell = true) : x.look.isCell = true := by
  cases x with
  | list fl sz es => cases fl <;> simp_all [AV.look, AV.isCell]
  | _ => exact h

/-- Operands of a literal. -/
theorem parts_V (r : SF g w ow fr a.tmps) {l : List (Nat × Operand)} : ∀ (j : Nat) p q, (l.map fun (i, x) => (i, seen fr x))[j]? = some p → (l.map fun (i, x) => (i, a.eval x))[j]? = some q → p.1 = q.1 ∧ V g w p.2 q.2 := by
  intro j p q hp hq
  rw [List.getElem?_map] at hp hq
  cases hl : l[j]? with
  | none => rw [hl] at hp; cases hp
  | some y =>
    obtain ⟨i, x⟩ := y
    rw [hl] at hp hq
    injection hp with hp; injection hq with hq; subst hp; subst hq
    exact ⟨rfl, r.seen x⟩

theorem build_run {t : TypeId} {parts : List (Nat × AV)} {vparts : Array (Nat × Value)} {v : AV} (h : build P t parts = some v) (hl : parts.length = vparts.toList.length) (hp : ∀ (j : Nat) p q, parts[j]? = some p → vparts.toList[j]? = some q → p.1 = q.1 ∧ V g w p.2 q.2) :
    ∃ val, (Instr.build t vparts).run P w = .ok val w ∧ V g w v val := by
  unfold build at h
  split at h
  · cases h
  rename_i z hz
  obtain ⟨zv, hz1, hz2, hz3⟩ := zeroA_run hz
  obtain ⟨_, h2, h3, _⟩ := ofPlain_V (g := g) (w := w) hz2
  obtain ⟨it, hit, hitz⟩ : ∃ it, P.info? t = some it ∧ it.zero = some zv := by
    cases hi : P.info? t with
    | none => simp [hi] at hz3
    | some it => exact ⟨it, rfl, by simpa [hi] using hz3⟩
  split at h
  · rename_i places hpl
    cases hf : fillA (fun i => places[i]?) z.cells parts with
    | none => simp [hf] at h
    | some cs =>
      simp [hf] at h; subst h
      obtain ⟨xs', r1, r2, r3⟩ := fill_run (g := g) (w := w) _ parts vparts.toList _ _ _ hf hl hp h2 h3
      unfold structPlaces at hpl
      split at hpl
      · rename_i fields hu
        refine ⟨.agg xs', run_build w t vparts xs' ?_, .agg r3 r2 .nil⟩
        unfold Program.built
        simp only [hit, hu, hitz, hpl]
        simpa using r1
      · cases hpl
  · split at h
    · rename_i n hn
      cases hf : fillA (fun i => some (i * n, n)) z.cells parts with
      | none => simp [hf] at h
      | some cs =>
        simp [hf] at h; subst h
        obtain ⟨xs', r1, r2, r3⟩ := fill_run (g := g) (w := w) _ parts vparts.toList _ _ _ hf hl hp h2 h3
        unfold arrayCells at hn
        split at hn
        · rename_i m e hu
          cases hie : P.info? e with
          | none => simp [hie] at hn
          | some ie =>
            simp [hie] at hn; subst hn
            refine ⟨.agg xs', run_build w t vparts xs' ?_, .agg r3 r2 .nil⟩
            unfold Program.built
            simp only [hit, hu, hitz, hie]
            exact r1
        · cases hn
    · cases h

theorem set_flatMap {n : Nat} : ∀ {es : List AV} {i : Nat} {v : AV}, (∀ e ∈ es, e.cells.length = n) → v.cells.length = n → i < es.length →
    (es.set i v).flatMap AV.cells = (es.flatMap AV.cells).take (i * n) ++ v.cells ++ (es.flatMap AV.cells).drop (i * n + n)
  | [], _, _, _, _, hi => by simp at hi
  | e :: es, 0, v, he, hv, _ => by
    have := he e (by simp)
    simp [this]
  | e :: es, i + 1, v, he, hv, hi => by
    have h1 := he e (by simp)
    rw [List.set_cons_succ, List.flatMap_cons, List.flatMap_cons, set_flatMap (fun x hx => he x (by simp [hx])) hv (by simpa using hi)]
    rw [Nat.add_mul, Nat.one_mul]
    have e1 : (e.cells ++ es.flatMap AV.cells).take (i * n + n) = e.cells ++ (es.flatMap AV.cells).take (i * n) := by
      rw [List.take_append, h1, Nat.add_sub_cancel, List.take_of_length_le (l := e.cells) (by omega)]
    have e2 : (e.cells ++ es.flatMap AV.cells).drop (i * n + n + n) = (es.flatMap AV.cells).drop (i * n + n) := by
      rw [List.drop_append, h1, List.drop_of_length_le (l := e.cells) (by omega), List.nil_append, Nat.add_sub_cancel]
    rw [e1, e2, List.append_assoc, List.append_assoc, List.append_assoc]

theorem fillE_fillA {n : Nat} : ∀ {parts : List (Nat × AV)} {es es' : List AV}, (∀ e ∈ es, e.cells.length = n) → AV.under.go 0 es = true → fillE n es parts = some es' →
    fillA (fun i => some (i * n, n)) (es.flatMap AV.cells) parts = some (es'.flatMap AV.cells) ∧ (∀ e ∈ es', e.cells.length = n) ∧ es'.length = es.length ∧ AV.under.go 0 es' = true
  | [], es, es', he, hu, h => by simp [fillE] at h; subst h; exact ⟨rfl, he, rfl, hu⟩
  | (i, v) :: rest, es, es', he, hu, h => by
    simp only [fillE] at h
    split at h
    case isFalse => cases h
    rename_i hc
    obtain ⟨c1, c2, c3, c4⟩ := hc
    have he' : ∀ e ∈ es.set i v, e.cells.length = n := fun e hm => by
      rcases List.mem_or_eq_of_mem_set hm with hm | rfl
      · exact he e hm
      · exact c1
    have hu' : AV.under.go 0 (es.set i v) = true := under_mem.2 fun e hm => by
      rcases List.mem_or_eq_of_mem_set hm with hm | rfl
      · exact (under_mem.1 hu) e hm
      · exact c3
    obtain ⟨r1, r2, r3, r4⟩ := fillE_fillA he' hu' h
    refine ⟨?_, r2, by rw [r3]; simp, r4⟩
    simp only [fillA]
    have hlen := elems_length he
    have hmul : (i + 1) * n ≤ es.length * n := Nat.mul_le_mul_right _ c2
    rw [Nat.add_mul, Nat.one_mul] at hmul
    rw [if_neg (by rw [hlen]; simp [c1, c4]; omega), ← set_flatMap he c1 c2]
    exact r1

theorem replicate_flatMap {cs : List AV} {n : Nat} (hn : cs.length = n) (h0 : 0 < n) : ∀ (k i : Nat), i < k * n → ((List.replicate k cs).flatten)[i]? = cs[i % n]?
  | 0, i, h => by omega
  | k + 1, i, h => by
    rw [List.replicate_succ, List.flatten_cons]
    by_cases hi : i < n
    · rw [List.getElem?_append_left (by omega), Nat.mod_eq_of_lt hi]
    · rw [List.getElem?_append_right (by omega), hn, replicate_flatMap hn h0 k (i - n) (by rw [Nat.add_mul] at h; omega)]
      rw [show i % n = (i - n) % n from (Nat.mod_eq_sub_mod (by omega))]

theorem zeros_V {z : AV} {zv : Value} {n : Nat} (hz : AV.ofPlain zv = some z) (hn : z.cells.length = n) (h0 : 0 < n) (k : Nat) :
    VL g w ((List.replicate k z).flatMap AV.cells) ((Array.range (k * n)).map (zv.cells[· % zv.cells.size]!)).toList := by
  obtain ⟨_, h2, h3, _⟩ := ofPlain_V (g := g) (w := w) hz
  have hs : zv.cells.size = n := by have := h2.length; simp at this; omega
  have hf : (List.replicate k z).flatMap AV.cells = (List.replicate k z.cells).flatten := by rw [List.flatMap_def, List.map_replicate]
  have hl : ((List.replicate k z.cells).flatten).length = k * n := by simp [hn]
  rw [hf]
  refine VL.of_get (by simp [hn]) fun i c hi => ?_
  have hlt : i < k * n := by have := (List.getElem?_eq_some_iff.1 hi).1; omega
  rw [replicate_flatMap hn h0 k i hlt] at hi
  obtain ⟨v, hv, hv'⟩ := h2.get hi
  refine ⟨v, ?_, hv'⟩
  have hm : i % n < n := Nat.mod_lt _ h0
  have : zv.cells[i % n]? = some v := by simpa using hv
  have hb : zv.cells[i % n]! = v := by rw [getElem!_def, this]
  simp [hlt, hs, hb]

/-- What cells hold, read. -/
theorem read_run (s : SS g w ow σ) {p : AV} {pv : Value} {n : Nat} {cs : List AV} (h : readCells σ p n = some cs) (hp : V g w p pv) :
    ∃ a xs, pv = .pointer (some a) ∧ a.spot = none ∧ cs.length = n ∧ VL g w cs xs ∧ (∀ c ∈ cs, c.isCell = true) ∧ ∀ (i : Nat) v, xs[i]? = some v → w.cell? (a.add i) = some v := by
  unfold readCells at h
  split at h
  · rename_i r off
    obtain ⟨b, rfl, hr⟩ := hp.ptr_inv
    cases hb : boxOf σ r with
    | none => simp [hb] at h
    | some bs =>
      simp only [hb, Option.bind_some] at h
      split at h
      case isFalse => cases h
      rename_i hl
      injection h with h; subst h
      obtain ⟨_, b', xs, E, fz, hr', hbox⟩ := s.box hb
      rw [hr] at hr'; injection hr' with hr'; subst hr'
      have hlen : (((bs.drop off).take n).map AV.look).length = n := by simp; omega
      -- the cells' values
      have hget : ∀ (i : Nat) (c : AV), (((bs.drop off).take n).map AV.look)[i]? = some c → ∃ v, w.cell? ⟨b, off + i, none⟩ = some v ∧ V g w c v ∧ c.isCell = true := by
        intro i c hc
        rw [List.getElem?_map, List.getElem?_take] at hc
        split at hc
        · rw [List.getElem?_drop] at hc
          cases hbi : bs[off + i]? with
          | none => rw [hbi] at hc; cases hc
          | some c' =>
            rw [hbi] at hc; injection hc with hc; subst hc
            obtain ⟨v, h1, h2, h3⟩ := hbox.read hbi
            exact ⟨v, h1, h2.look, look_isCell h3⟩
        · cases hc
      let xs : List Value := (List.range n).map fun i => (w.cell? ⟨b, off + i, none⟩).getD undef
      have hx : ∀ (i : Nat), i < n → xs[i]? = some ((w.cell? ⟨b, off + i, none⟩).getD undef) := fun i hi => by simp [xs, hi]
      refine ⟨⟨b, off, none⟩, xs, rfl, rfl, hlen, ?_, ?_, ?_⟩
      · refine VL.of_get (by simp [xs]; omega) fun i c hc => ?_
        obtain ⟨v, h1, h2, _⟩ := hget i c hc
        have hi : i < n := by have := (List.getElem?_eq_some_iff.1 hc).1; omega
        exact ⟨v, by rw [hx i hi, h1]; rfl, h2⟩
      · intro c hc
        obtain ⟨i, hi⟩ := List.getElem?_of_mem hc
        exact (hget i c hi).choose_spec.2.2
      · intro i v hi
        have hin : i < n := by have := (List.getElem?_eq_some_iff.1 hi).1; simpa [xs] using this
        obtain ⟨u, h1, _⟩ := hget i _ (List.getElem?_eq_getElem (by omega))
        rw [hx i hin, h1] at hi
        rw [Addr.add_lit, h1]; simpa using hi
  · rename_i bs
    split at h
    case isFalse => cases h
    rename_i hl
    injection h with h; subst h
    cases hp with
    | @rop _ ad xs _ _ h1 h2 h3 h4 h5 _ =>
    refine ⟨ad, xs.take n, rfl, h1, by rw [List.length_take]; omega, h4.takes n, fun c hc => h2 c (List.mem_of_mem_take hc), fun i v hi => ?_⟩
    rw [add_spot h1]
    rw [List.getElem?_take] at hi
    split at hi
    · exact (h5 i v hi).1
    · cases hi
  · cases h

theorem loadAt_run (s : SS g w ow σ) {t : TypeId} {p v : AV} {pv : Value} (h : load P false t p σ = some (v, σ')) (hp : V g w p pv) : σ' = σ ∧ ∃ val, (Instr.loadAt t pv).run P w = .ok val w ∧ V g w v val := by
  unfold load at h
  split at h
  · rename_i ha
    split at h
    · cases h
    rename_i h0
    cases hr : readCells σ p (P.cellsOf t) with
    | none => simp [hr] at h
    | some cs =>
      simp [hr] at h
      obtain ⟨rfl, rfl⟩ := h
      obtain ⟨ad, xs, rfl, h1, h2, h3, h4, h5⟩ := read_run s hr hp
      have hl : xs.length = P.cellsOf t := by rw [h3.length, h2]
      have := run_loadCells_list (P := P) w ad xs h5
      rw [hl] at this
      exact ⟨rfl, .agg xs.toArray, by simp [Instr.loadAt, Instr.sureAddr, loadVar, run_aggOf ha, run_sizeOf h0, this], .agg h4 (by simpa using h3) .nil⟩
  · rename_i ha
    simp only at h
    split at h
    · rename_i v' hr
      simp only [Option.some.injEq, Prod.mk.injEq] at h
      obtain ⟨rfl, rfl⟩ := h
      obtain ⟨ad, xs, rfl, h1, h2, h3, h4, h5⟩ := read_run s hr hp
      obtain ⟨u, us, rfl, h6, h7⟩ := h3.cons_left
      have := h5 0 u rfl
      rw [add_spot h1] at this
      have he : (⟨ad.block, ad.off + 0, none⟩ : Addr) = ad := by cases ad; simp_all
      rw [he] at this
      exact ⟨rfl, u, by simp [Instr.loadAt, Instr.sureAddr, loadVar, run_aggOf ha, Go.load, Sem.run, this], h6⟩
    · cases h
  · cases h
end
end Go.AM
/-! Operations that make or write memory. -/
namespace Go.AM
open Go
set_option linter.unusedVariables false

section
variable {P : Program} {g g' : G} {w w' : World} {ow ow' ow1 : Own} {σ σ' : St} {fr fr' : Fr} {tm : Array Value} {a : Act} {dst : Option Tmp}

theorem Tr.nought {M : Nat → Nat → Prop} (t : Tr Nought g w g' w') : Tr M g w g' w' := t.weaken fun _ _ h => h.elim

/-- An outcome whose value lies in a new block. -/
theorem Out.new {v : AV} {val : Value} {wr' : Nat → Nat → Prop} {ro : Nat → Nat → Prop} (r : Rel { g with wr := wr' } w' ow fr tm σ) (t : Tr Nought g w { g with wr := wr' } w') (f : Free { g with wr := wr' } ow ro)
    (hro : ∀ b o, ro b o → b = w.heap.size) (hwr : ∀ b o, wr' b o → g.wr b o ∨ b = w.heap.size) (hk : ∀ b o, g.wr b o → wr' b o) (hv : PV { g with wr := wr' } w' ro v val) : ∃ g' ow', Out g w ow dst v fr σ tm g' w' ow' val := by
  obtain ⟨ow', h⟩ := Out.of (g := g) (w := w) (ow := ow) (dst := dst) r hv f t.nought (fun p b o h => .inl (.own h)) (fun b o h => .inr (Nat.le_of_eq (hro b o h).symm)) (fun b o h1 h2 => (hwr b o h2).elim (fun h => .inl (.inl ⟨h1, h⟩)) fun h => .inr (Nat.le_of_eq h.symm)) (fun b o h => .inr (hk b o h)) (fun _ h => .inl h)
  exact ⟨_, ow', h⟩

/-- From what is one's own alone to what may be shared, in an outcome. -/
theorem Out.calm {sz : Nat} {es : List AV} {v : AV} {val : Value} {wr' : Nat → Nat → Prop} {ro : Nat → Nat → Prop} (r : Rel { g with wr := wr' } w' ow fr tm σ) (t : Tr Nought g w { g with wr := wr' } w') (f : Free { g with wr := wr' } ow ro)
    (hro : ∀ b o, ro b o → b = w.heap.size) (hwr : ∀ b o, wr' b o → g.wr b o ∨ b = w.heap.size) (hkw : ∀ b o, g.wr b o → wr' b o) (hlt : ∀ b o, g.wr b o → b < w.heap.size) (hv : PV { g with wr := wr' } w' ro (.list .uniq sz es) val)
    (hk : ∀ (g1 : G) ro', PV g1 w' ro' (.list .own sz es) val → PV g1 w' ro' v val) : ∃ g' ow', Out g w ow dst v fr σ tm g' w' ow' val := by
  obtain ⟨X, ro', r', hp, f', k1, k2⟩ := Uniq.calm r hv f
  have t' : Tr Nought g w (G.less { g with wr := wr' } X) w' := t.trans (Tr.less (M := Nought) X) fun _ _ h => False.elim h
  exact Out.new (wr' := fun b o => wr' b o ∧ ¬ X b o) r' t' f' (fun b o h => hro b o (k1 b o h)) (fun b o h => hwr b o h.1) (fun b o h => ⟨hkw b o h, fun hx => by have := hro b o (k2 b o hx); have := hlt b o h; omega⟩) (hk _ _ hp)

theorem PV.toFull {o : Nat → Nat → Prop} {sz : Nat} {es : List AV} {ad : Addr} {n : Nat} (h : PV g w o (.list .own sz es) (.slice (some ad) n n)) : PV g w o (.list .full sz es) (.slice (some ad) n n) := by
  obtain ⟨h1, _⟩ := h
  cases h1 with
  | list k1 k2 k3 k4 k5 k6 k7 k8 k9 _ => exact VL.list (.inr ⟨rfl, rfl⟩) k2 k3 k4 k5 k6 k7 k8 k9 .nil

theorem newVar_run {t : TypeId} {v : Value} : (newVar t v).run P w = .ok ⟨w.heap.size, 0, none⟩ (w.alloc (.cells v.cells t)) := by
  simp [newVar, newRow]

/-- A box that an operation makes. -/
theorem Out.box {hp : Bool} {rf : Ref} {cs : List AV} {vals : Array Value} {E : TypeId} {ro : Nat → Nat → Prop} {fr1 : Fr} (r : Rel g w ow1 fr1 tm σ) (h : AM.newBox hp cs σ = some (rf, σ')) (hv : Cells g w ro cs vals.toList) (f : Free g ow1 ro)
    (h1 : ∀ p b o, ow1 p b o → ow p b o) (h2 : ∀ b o, ro b o → May g ow b o) :
    ∃ g' ow', Out g w ow dst (.ptr rf 0) fr1 σ' tm g' (w.alloc (.cells vals E)) ow' (.pointer (some ⟨w.heap.size, 0, none⟩)) := by
  obtain ⟨g', ow', r', k1, k2, k3, k4, k5, k6, k7⟩ := r.newBox h hv f (w' := w.alloc (.cells vals E)) rfl
  have hlt : ∀ b o, May g ow b o → True := fun _ _ _ => trivial
  obtain ⟨ow'', h⟩ := Out.of (g := g) (w := w) (ow := ow) (dst := dst) r' (PV.of (o := Nobody) (.ptr k1 .nil)) (Free.nobody _ _) k2.nought (fun p b o h => by
    rcases k3 p b o h with h | h
    · exact .inl (.own (h1 _ _ _ h))
    · exact .inl (h2 _ _ h)) (fun b o h => h.elim) (fun b o hb hw => by
      rcases k5 b hb with hb | hb
      · rcases k2.wr b o hw with hw | hw
        · exact .inl (.inl ⟨hb, hw⟩)
        · exact .inr hw
      · exact .inr (Nat.le_of_eq hb.symm)) (fun b o h => .inr (k6 b o h)) (fun b h => (k7 b h).imp id fun h => Nat.le_of_eq h.symm)
  exact ⟨g', ow'', h⟩

theorem alloc_out (r : Rel g w ow fr tm σ) {hp : Bool} {t : TypeId} {z : AV} {rf : Ref} (hz : zeroA P t = some z) (h : AM.newBox hp z.cells σ = some (rf, σ')) :
    ∃ val w', (Instr.alloc t true (.tuple #[])).run P w = .ok val w' ∧ ∃ g' ow', Out g w ow dst (.ptr rf 0) fr σ' tm g' w' ow' val := by
  obtain ⟨zv, hz1, hz2, _⟩ := zeroA_run hz
  obtain ⟨_, k2, k3, _⟩ := ofPlain_V (g := g) (w := w) hz2
  exact ⟨.pointer (some ⟨w.heap.size, 0, none⟩), w.alloc (.cells zv.cells t), by simp [Instr.alloc, hz1, newVar_run], Out.box r h (Cells.of (ro := Nobody) k2 k3) (Free.nobody _ _) (fun _ _ _ h => h) fun _ _ h => h.elim⟩

theorem PV.calmCells {ro : Nat → Nat → Prop} {x : AV} {v : Value} (r : Rel g w ow fr tm σ) (h : PV g w ro x v) (f : Free g ow ro) (hf : x.fit = true) :
    ∃ X ro', Rel (g.less X) w ow fr tm σ ∧ Cells (g.less X) w ro' x.calm.cells v.cells.toList ∧ Free (g.less X) ow ro' ∧ (∀ b o, ro' b o → ro b o) ∧ (∀ b o, X b o → ro b o) := by
  have same : ∀ (hx : x.calm = x), Cells g w ro x.cells v.cells.toList → ∃ X ro', Rel (g.less X) w ow fr tm σ ∧ Cells (g.less X) w ro' x.calm.cells v.cells.toList ∧ Free (g.less X) ow ro' ∧ (∀ b o, ro' b o → ro b o) ∧ (∀ b o, X b o → ro b o) := by
    intro hx hc
    refine ⟨fun _ _ => False, ro, r.less (fun _ _ h => h.elim) (fun _ _ _ _ h => h), ⟨by rw [hx]; exact hc.1, fun i c hi => ?_⟩, f.less fun b o h => ⟨h, fun h => h⟩, fun _ _ h => h, fun _ _ h => h.elim⟩
    rw [hx] at hi
    obtain ⟨u, h1, h2, h3⟩ := hc.2 i c hi
    exact ⟨u, h1, h2.later (Tr.less (M := Nought) _) (fun _ _ h => h.elim) (fun _ _ _ h => h), h3⟩
  have plain : (hx : x.calm = x) → x.common = true → ∃ X ro', Rel (g.less X) w ow fr tm σ ∧ Cells (g.less X) w ro' x.calm.cells v.cells.toList ∧ Free (g.less X) ow ro' ∧ (∀ b o, ro' b o → ro b o) ∧ (∀ b o, X b o → ro b o) := by
    intro hx hc
    obtain ⟨k1, k2⟩ := V.cells (h.plain hc) hf
    exact same hx (Cells.of k1 k2)
  cases x with
  | list fl sz es =>
    cases fl with
    | uniq =>
      obtain ⟨X, ro', r', hp, f', k1, k2⟩ := Uniq.calm r h f
      obtain ⟨ad, cap, xs, u⟩ := h
      refine ⟨X, ro', r', ?_, f', k1, k2⟩
      rw [u.val] at hp ⊢
      exact Cells.one hp rfl
    | own =>
      obtain ⟨h1, ad, n, c, rfl, h2⟩ := h
      exact same rfl (Cells.one ⟨h1, ad, n, c, rfl, h2⟩ rfl)
    | sh => exact plain rfl rfl
    | full => exact plain rfl rfl
  | _ => exact plain rfl rfl

theorem May_less {X : Nat → Nat → Prop} {b o : Nat} (h : May (g.less X) ow b o) : May g ow b o := May.less h

/-- 'box': the value goes into a box of its own. -/
theorem box_out (r : Rel g w ow fr a.tmps σ) {tk hp : Bool} {x : Operand} {t : TypeId} {rf : Ref} (hf : (taken tk fr x).1.fit = true) (h : AM.newBox hp (taken tk fr x).1.calm.cells σ = some (rf, σ')) :
    ∃ g' ow', Out g w ow dst (.ptr rf 0) (taken tk fr x).2 σ' a.tmps g' (w.alloc (.cells (a.eval x).cells t)) ow' (.pointer (some ⟨w.heap.size, 0, none⟩)) := by
  -- first what is taken, then what it leaves
  have step : ∃ g1 ow1 ro, Rel g1 w ow1 (taken tk fr x).2 a.tmps σ ∧ Cells g1 w ro (taken tk fr x).1.calm.cells (a.eval x).cells.toList ∧ Free g1 ow1 ro ∧ Tr Nought g w g1 w ∧ (∀ p b o, ow1 p b o → ow p b o) ∧ (∀ b o, ro b o → May g ow b o) ∧ (∀ b o, g1.wr b o → g.wr b o) ∧ (∀ b, g1.isBox b → g.isBox b) ∧ (∀ b o, g.wr b o → May g ow b o ∨ g1.wr b o) ∧ g1.hb = g.hb := by
    cases tk with
    | true =>
      obtain ⟨ow1, r1, hp1, f1, k1⟩ := taken_true r x
      obtain ⟨X, ro', r2, hc, f2, k2, k3⟩ := PV.calmCells r1 hp1 f1 hf
      have hm : ∀ b o, ownOf ow x b o → May g ow b o := fun b o this => by cases x <;> first | exact .own this | exact this.elim
      exact ⟨g.less X, ow1, ro', r2, hc, f2, Tr.less X, k1, fun b o h => hm _ _ (k2 _ _ h), fun _ _ h => h.1, fun _ h => h, fun b o h => (Classical.em (X b o)).elim (fun hx => .inl (hm _ _ (k3 _ _ hx))) fun hx => .inr ⟨h, hx⟩, rfl⟩
    | false =>
      obtain ⟨g1, ow1, r1, hv, t1, k1, k2, k3, k6, k7, k8⟩ := taken_false r x
      obtain ⟨X, ro', r2, hc, f2, k4, k5⟩ := PV.calmCells r1 (PV.of (o := Nobody) hv) (Free.nobody _ _) hf
      refine ⟨g1.less X, ow1, ro', r2, hc, f2, ?_, k1, fun b o h => (k4 _ _ h).elim, fun _ _ h => k2 _ _ h.1, fun _ h => k3 _ h, fun b o h => (k6 b o h).elim (fun h => .inr ⟨h, fun hx => (k5 _ _ hx).elim⟩) fun h => .inl (.inr h), k8⟩
      exact ⟨Nat.le_refl _, fun _ _ _ => rfl, fun _ _ _ _ => rfl, fun _ _ v h => ⟨v, h⟩, fun _ _ _ => rfl, fun _ _ h => .inl (k2 _ _ h.1), t1.sb, t1.hb, ⟨rfl, rfl, rfl⟩⟩
  obtain ⟨g1, ow1, ro, r1, hc, f1, t1, k1, k2, k3, k4, k5, k6⟩ := step
  obtain ⟨g', ow', r', j1, j2, j3, j4, j5, j6, j7⟩ := r1.newBox h hc f1 (w' := w.alloc (.cells (a.eval x).cells t)) rfl
  obtain ⟨ow'', h⟩ := Out.of (g := g) (w := w) (ow := ow) (dst := dst) r' (PV.of (o := Nobody) (.ptr j1 .nil)) (Free.nobody _ _) (t1.trans j2 fun _ _ h => False.elim h).nought (fun p b o h => by
    rcases j3 p b o h with h | h
    · exact .inl (.own (k1 _ _ _ h))
    · exact .inl (k2 _ _ h)) (fun b o h => h.elim) (fun b o hb hw => by
      rcases j5 b hb with hb | hb
      · rcases j2.wr b o hw with hw | hw
        · exact .inl (.inl ⟨k4 _ hb, k3 _ _ hw⟩)
        · exact .inr hw
      · exact .inr (Nat.le_of_eq hb.symm)) (fun b o h => (k5 b o h).imp id (j6 b o)) (fun b h => (j7 b h).imp (fun h => k6 ▸ h) fun h => Nat.le_of_eq h.symm)
  exact ⟨g', ow'', h⟩
end
end Go.AM
/-! Stores, loads that take, literals of slices, make. -/
namespace Go.AM
open Go
set_option linter.unusedVariables false

section
variable {P : Program} {g g' : G} {w w' : World} {ow ow' ow1 : Own} {σ σ' : St} {fr fr' : Fr} {tm : Array Value} {a : Act} {dst : Option Tmp}

theorem oneCell_of {x : AV} {v : Value} {o : Nat → Nat → Prop} (h : PV g w o x v) (hc : x.isCell = true) : v.oneCell' = true := by
  cases x with
  | agg cs => simp [AV.isCell] at hc
  | undef => simp [AV.isCell] at hc
  | tup vs => simp [AV.isCell] at hc
  | s y => obtain rfl := V.sc_inv h; cases y <;> rfl
  | list fl sz es =>
    obtain ⟨ad, c, rfl, _⟩ := V_len_slice h; rfl
  | rop cs => obtain ⟨ad, rfl⟩ := V.rop_inv h; rfl
  | ptr r off => obtain ⟨b, rfl, _⟩ := V.ptr_inv h; rfl
  | row r off len cap => obtain ⟨b, c, rfl, _⟩ := V.row_inv h; rfl
  | map n => obtain ⟨b, rfl, _⟩ := V.map_inv h; rfl
  | fn f p c => obtain ⟨xs, ys, rfl, _⟩ := V.fn_inv h; rfl
  | yield n => cases (show V g w (.yield n) v from h) with | yield _ _ => rfl

theorem Cells.one' {ro : Nat → Nat → Prop} {cs : List AV} {vs : List Value} (h : Cells g w ro cs vs) : ∀ v ∈ vs, v.oneCell' = true := by
  intro v hv
  obtain ⟨i, hi⟩ := List.getElem?_of_mem hv
  have hl : i < cs.length := by have := (List.getElem?_eq_some_iff.1 hi).1; rw [← h.1]; exact this
  obtain ⟨u, h1, h2, h3⟩ := h.2 i _ (List.getElem?_eq_getElem hl)
  rw [hi] at h1; injection h1 with h1; subst h1
  exact oneCell_of h2 h3

/-- A store through a pointer into a box, run. -/
theorem write_run (r : Rel g w ow1 fr tm σ) {rf : Ref} {off b : Nat} {vs : List AV} {vals : List Value} {ro : Nat → Nat → Prop} (h : writeCells σ rf off vs = some σ') (hb : g.ref rf = some b) (hv : Cells g w ro vs vals) (f : Free g ow1 ro) :
    (storeCells ⟨b, off, none⟩ vals).run P w = .ok () (w.setCells b off vals) ∧ ∃ ow', Rel g (w.setCells b off vals) ow' fr tm σ' ∧ Tr (May g ow1) g w g (w.setCells b off vals) ∧ (∀ p b o, ow' p b o → ow1 p b o ∨ ro b o) := by
  obtain ⟨k1, k2, ow', k3, k4, k5, _⟩ := r.write h hb hv f
  refine ⟨?_, ow', k3, k4, k5⟩
  have := run_storeCells_cells (P := P) b off vals 0 w (by simpa using k1) (by simpa using k2) hv.one'
  simpa using this

theorem store_out (r : Rel g w ow fr a.tmps σ) {x p : Operand} {t : TypeId} (hf : (taken true fr x).1.fit = true) (h : AM.store P t (seen (taken true fr x).2 p) (taken true fr x).1.calm σ = some σ') :
    ∃ w', (Instr.storeAt t (a.eval p) (a.eval x)).run P w = .ok () w' ∧ ∃ g' ow', Out g w ow dst .undef (taken true fr x).2 σ' a.tmps g' w' ow' undef := by
  obtain ⟨ow1, r1, hp1, f1, k1⟩ := taken_true r x
  obtain ⟨X, ro', r2, hc, f2, k2, k3⟩ := PV.calmCells r1 hp1 f1 hf
  unfold AM.store at h
  split at h
  case h_2 => cases h
  rename_i rf off hpe
  split at h
  case isFalse => cases h
  rename_i hcond
  have hpv := r2.sf.seen p
  rw [hpe] at hpv
  obtain ⟨b, hpv', hb⟩ := hpv.ptr_inv
  obtain ⟨j1, ow', j2, j3, j4⟩ := write_run (P := P) r2 h hb hc f2
  have hsz : (a.eval x).cells.size = P.cellsOf t := by have := hc.1; simp at this; rw [this]; exact hcond.1
  refine ⟨w.setCells b off (a.eval x).cells.toList, ?_, ?_⟩
  · rw [hpv']
    simp [Instr.storeAt, Instr.sureAddr, storeVar, run_sizeOf hcond.2.1, hsz, j1]
  · have hm : ∀ b o, ownOf ow x b o → May g ow b o := fun b o h => by cases x <;> first | exact .own h | exact h.elim
    have t0 : Tr (May g ow) g w (g.less X) (w.setCells b off (a.eval x).cells.toList) := (Tr.less (M := May g ow) X).trans j3 fun b o h => by
      rcases May.less h with h | ⟨p, h⟩
      · exact .inl (.inl h)
      · exact .inl (.own (k1 _ _ _ h))
    obtain ⟨ow'', ho⟩ := Out.of (g := g) (w := w) (ow := ow) (dst := dst) j2 (PV.undef (o := Nobody) undef) (Free.nobody _ _) t0 (fun p b o h => by
      rcases j4 p b o h with h | h
      · exact .inl (.own (k1 _ _ _ h))
      · exact .inl (hm _ _ (k2 _ _ h))) (fun b o h => h.elim) (fun b o h1 h2 => .inl (.inl ⟨h1, h2.1⟩)) (fun b o h => (Classical.em (X b o)).elim (fun hx => .inl (hm _ _ (k3 _ _ hx))) fun hx => .inr ⟨h, hx⟩) (fun _ h => .inl h)
    exact ⟨_, ow'', ho⟩

theorem PV.shv {o : Nat → Nat → Prop} {x : AV} {v : Value} (h : PV g w o x v) (hc : x.isCell = true) : V g w x.sh v ∧ x.sh.isCell = true := by
  refine ⟨h.sh fun sz es e => ?_, ?_⟩
  · subst e; simp [AV.isCell] at hc
  · cases x with
    | list fl sz es => cases fl <;> simp_all [AV.sh, AV.isCell]
    | _ => exact hc

/-- Loads. -/
theorem load_out (r : Rel g w ow fr a.tmps σ) {tk : Bool} {t : TypeId} {p : Operand} {v : AV} (h : AM.load P tk t (seen fr p) σ = some (v, σ')) :
    ∃ val, (Instr.loadAt t (a.eval p)).run P w = .ok val w ∧ ∃ g' ow', Out g w ow dst v fr σ' a.tmps g' w ow' val := by
  have plain : AM.load P false t (seen fr p) σ = some (v, σ') → ∃ val, (Instr.loadAt t (a.eval p)).run P w = .ok val w ∧ ∃ g' ow', Out g w ow dst v fr σ' a.tmps g' w ow' val := by
    intro h
    obtain ⟨rfl, val, k1, k2⟩ := loadAt_run r.ss h (r.sf.seen p)
    exact ⟨val, k1, g, Out.pure r k2⟩
  cases tk with
  | false => exact plain h
  | true =>
    cases ha : aggOf P t with
    | none => simp [AM.load, ha] at h
    | some b =>
      cases b with
      | true => exact plain (by simpa [AM.load, ha] using h)
      | false =>
        by_cases hp : ∃ rf off, seen fr p = .ptr rf off
        · obtain ⟨rf, off, hp⟩ := hp
          rw [hp] at h
          simp only [AM.load, ha] at h
          cases hb : boxOf σ rf with
          | none => simp [hb] at h
          | some cs =>
            simp only [hb, Option.bind_some] at h
            split at h
            case h_2 => cases h
            rename_i v' hv'
            simp only [Option.some.injEq, Prod.mk.injEq] at h
            obtain ⟨rfl, rfl⟩ := h
            have hpv := r.sf.seen p
            rw [hp] at hpv
            obtain ⟨bl, hpv', hr⟩ := hpv.ptr_inv
            obtain ⟨hu, b', xs, E, fz, hr', hbox⟩ := r.ss.box hb
            rw [hr] at hr'; injection hr' with hr'; subst hr'
            obtain ⟨val, c1, c2, c3⟩ := hbox.read hv'
            have hl : off + 1 ≤ cs.length := (List.getElem?_eq_some_iff.1 hv').1
            -- the place gives up what it owned
            have r1 : Rel g w (ow.set (rf.pl off) Nobody) fr a.tmps (setBox σ rf (splice cs off [v'.sh])) := by
              refine ⟨?_, r.own.set (Free.nobody _ _), ?_⟩
              · refine r.ss.setBox (xs' := xs) (E' := E) (fz' := fz) r.own hb hr (Tr.refl Nought g w) (fun _ _ h => False.elim h) r.ss.lt rfl rfl (fun _ _ _ _ h => h) ?_ ⟨hbox.obj, by rw [splice_length _ _ _ hl]; exact hbox.le, ?_, fun i hi => by rw [splice_length _ _ _ hl] at hi; exact hbox.wr i hi⟩ ?_
                · refine under_splice hl hu ?_
                  have := (under_mem.1 hu) v' (List.mem_of_getElem? hv')
                  simp only [AV.under.go, Bool.and_true]
                  revert this
                  cases v' with
                  | list fl sz es => cases fl <;> simp [AV.sh, AV.under]
                  | _ => exact id
                · intro i x hi
                  rw [splice_get _ _ _ hl] at hi
                  by_cases e : i = off
                  · subst e
                    rw [if_pos (by simp), Nat.sub_self] at hi
                    simp at hi; subst hi
                    obtain ⟨u, u1, u2, u3⟩ := hbox.val i v' hv'
                    obtain ⟨s1, s2⟩ := u2.shv u3
                    exact ⟨u, u1, PV.of s1, s2⟩
                  · rw [if_neg (by simp; omega)] at hi
                    obtain ⟨u, u1, u2, u3⟩ := hbox.val i x hi
                    refine ⟨u, u1, ?_, u3⟩
                    rw [Own.set_other _ _ (by cases rf <;> simp [Ref.pl, e])]; exact u2
                · intro p b' x hp _ h
                  rw [Own.set_other _ _ (hp off)]; exact h
              · refine r.sf.later (Tr.refl Nought g w) (fun _ _ h => False.elim h) (fun _ _ _ _ h => h) fun i b x h => ?_
                rw [Own.set_other _ _ (by cases rf <;> simp [Ref.pl])]; exact h
            refine ⟨val, ?_, ?_⟩
            · rw [hpv']
              simp [Instr.loadAt, Instr.sureAddr, loadVar, run_aggOf ha, Go.load, Sem.run, c1]
            · obtain ⟨ow'', ho⟩ := Out.of (g := g) (w := w) (ow := ow) (dst := dst) r1 c2 (r.own.take _) (Tr.refl _ _ _) (fun p b o h => by
                by_cases e : p = rf.pl off
                · rw [e, Own.set_same] at h; exact h.elim
                · rw [Own.set_other _ _ e] at h; exact .inl (.own h)) (fun b o h => .inl (.own h)) (fun b o h1 h2 => .inl (.inl ⟨h1, h2⟩)) (fun _ _ h => .inr h) (fun _ h => .inl h)
              exact ⟨g, ow'', ho⟩
        · refine plain ?_
          simp only [AM.load, ha] at h ⊢
          revert h
          cases hq : seen fr p <;> first | exact id | (exact (hp ⟨_, _, hq⟩).elim)
end
end Go.AM
