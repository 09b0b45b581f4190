import Derived.Orders
/-! An abstract machine for the model's code: slices that nobody writes into are lists, memory is only boxes and maps. -/
namespace Go.AM
open Go

inductive Sc where
  | bool (b : Bool)
  | int (k : IntKind) (n : Int)
  | str (s : List UInt8)
  | nilS
  | nilP
  | nilM
  | nilF
  deriving DecidableEq

def Sc.toV : Sc → Value
  | .bool b => .bool b
  | .int k n => .int k n
  | .str s => .string ⟨s.toArray⟩
  | .nilS => .slice none 0 0
  | .nilP => .pointer none
  | .nilM => .map none
  | .nilF => .nilFunc

def Sc.ofV : Value → Option Sc
  | .bool b => some (.bool b)
  | .int k n => some (.int k n)
  | .string s => some (.str s.data.toList)
  | .slice none 0 0 => some .nilS
  | .pointer none => some .nilP
  | .map none => some .nilM
  | .nilFunc => some .nilF
  | _ => none

/-- sh: a view that others may share · own: nobody else may write behind it · uniq: nobody else sees it · full: no room behind it -/
inductive Fl where
  | sh | own | uniq | full
  deriving DecidableEq

inductive Ref where
  | stk (n : Nat)
  | heap (n : Nat)
  deriving DecidableEq

inductive AV where
  | s (x : Sc)
  | undef
  | agg (cs : List AV)
  | tup (vs : List AV)
  | list (fl : Fl) (sz : Nat) (es : List AV)
  | rop (cs : List AV)
  | ptr (r : Ref) (off : Nat)
  | row (r : Ref) (off len cap : Nat)
  | map (h : Nat)
  | fn (fn : Fn) (first captured : List AV)
  | yield (h : Nat)
  deriving Inhabited

abbrev AV.bool (b : Bool) : AV := .s (.bool b)
abbrev AV.int (k : IntKind) (n : Int) : AV := .s (.int k n)
abbrev AV.i (n : Int) : AV := .s (.int .i64 n)
abbrev AV.str (l : List UInt8) : AV := .s (.str l)
abbrev AV.nilS : AV := .s .nilS
abbrev AV.nilP : AV := .s .nilP
abbrev AV.nilM : AV := .s .nilM

structure Entry where
  key : AV
  val : AV
  born : Nat
  deriving Inhabited

inductive Ex where
  | normal
  | exit (id : Nat)
  | ret
  deriving DecidableEq

def Ex.toCode : Ex → Code
  | .normal => .skip
  | .exit id => .exit id
  | .ret => .ret

/-- A range over a function that goes on. -/
structure LoopA where
  fid : FuncId
  fr : List AV
  params : List Tmp
  assign : Code
  body : Code
  ready : Bool
  pending : Option Ex
  deriving Inhabited

inductive HObj where
  | cells (cs : List AV)
  | map (es : List Entry) (clock : Nat)
  | loop (l : LoopA)
  | dead
  deriving Inhabited

structure St where
  stk : List (List AV)
  heap : List HObj
  deriving Inhabited

abbrev Fr := List AV

def AV.cells : AV → List AV
  | .agg cs => cs
  | v => [v]

/-- A copy that owns nothing. -/
def AV.sh : AV → AV
  | .list .own sz es => .list .sh sz es
  | .list .uniq sz es => .list .sh sz es
  | v => v

/-- What may be looked at: a list that is one's own alone may not. -/
def AV.look : AV → AV
  | .list .own sz es => .list .sh sz es
  | .list .uniq _ _ => .undef
  | v => v

/-- What is left in a place from which all was taken. -/
def AV.left : AV → AV
  | .list .own sz es => .list .sh sz es
  | .list .uniq _ _ => .undef
  | v => v

/-- As it may lie in memory. -/
def AV.calm : AV → AV
  | .list .uniq sz es => .list .own sz es
  | v => v

/-- A constant of the code. -/
def AV.ofV (v : Value) : AV :=
  match Sc.ofV v with
  | some x => .s x
  | none => .undef

/-- May it be the content of one cell? -/
def AV.isCell : AV → Bool
  | .agg _ | .undef | .tup _ | .list .uniq _ _ => false
  | _ => true

/-- May it be laid into memory? -/
def AV.fit : AV → Bool
  | .undef | .tup _ => false
  | _ => true

/-- All references to stack boxes that are seen from here are below 'n'; lists bear none at all. -/
def AV.under (n : Nat) : AV → Bool
  | .agg cs => go cs
  | .tup vs => go vs
  | .ptr (.stk m) _ => decide (m < n)
  | .row (.stk m) _ _ _ => decide (m < n)
  | .fn _ a c => go a && go c
  | _ => true
  where go : List AV → Bool
  | [] => true
  | x :: xs => AV.under n x && go xs

abbrev underL (n : Nat) (l : List AV) : Bool := AV.under.go n l

def AV.beq : AV → AV → Bool
  | .s x, .s y => decide (x = y)
  | .undef, .undef => true
  | .agg a, .agg b => go a b
  | .tup a, .tup b => go a b
  | .list f n a, .list g m b => decide (f = g) && decide (n = m) && go a b
  | .rop a, .rop b => go a b
  | .ptr r o, .ptr r' o' => decide (r = r') && decide (o = o')
  | .row r o l c, .row r' o' l' c' => decide (r = r') && decide (o = o') && decide (l = l') && decide (c = c')
  | .map a, .map b => decide (a = b)
  | .yield a, .yield b => decide (a = b)
  | .fn f a c, .fn g b d => decide (f = g) && go a b && go c d
  | _, _ => false
  where go : List AV → List AV → Bool
  | [], [] => true
  | x :: xs, y :: ys => AV.beq x y && go xs ys
  | _, _ => false

def scalars : List AV → Option (List Value)
  | [] => some []
  | .s x :: r => (scalars r).map (x.toV :: ·)
  | _ :: _ => none

/-- What is plain: a scalar, or a struct or array of such. -/
def AV.toV : AV → Option Value
  | .s x => some x.toV
  | .agg cs => (scalars cs).map fun l => .agg l.toArray
  | _ => none

def Sc.ofVs : List Value → Option (List AV)
  | [] => some []
  | v :: r => match Sc.ofV v, Sc.ofVs r with
    | some x, some l => some (.s x :: l)
    | _, _ => none

def AV.ofPlain : Value → Option AV
  | .agg cs => (Sc.ofVs cs.toList).map .agg
  | v => (Sc.ofV v).map .s

/-- What is called. -/
inductive Tgt where
  | fn (f : FuncId)
  | yield (h : Nat)

structure Cfg where
  /-- does the box that this operation makes outlive its call? -/
  heap : FuncId → Nat → Bool
  /-- does this operation take what its source owns? -/
  take : FuncId → Nat → Bool
  /-- does this move turn a list that nobody else sees into a row that is written? and back? -/
  thaw : FuncId → Nat → Bool
  freeze : FuncId → Nat → Bool
  /-- the slots that live at the head of the loop in this block -/
  mask : FuncId → Nat → List Bool
  /-- an order for a region whose order is drawn -/
  plan : FuncId → Nat → List Nat
  prim : FuncId → Option (List AV → St → Option (AV × St))

/-- A pure run of a part of the model. -/
def val {α : Type} (P : Program) : Sem α → Option α
  | .pure a => some a
  | .program k => val P (k P)
  | _ => none

def opnd (fr : Fr) : Operand → AV
  | .tmp t => fr.getD t .undef
  | .const v => .ofV v
  | .func f => .fn (.func f) [] []
  | .global _ => .undef

/-- The operand, looked at. -/
def seen (fr : Fr) (x : Operand) : AV := (opnd fr x).look

/-- The operand's value, and the frame behind it. -/
def taken (tk : Bool) (fr : Fr) (x : Operand) : AV × Fr :=
  match x with
  | .tmp t => if tk then (fr.getD t .undef, fr.set t (fr.getD t .undef).left) else
    match fr.getD t .undef with
    | .list .uniq sz es => (.list .sh sz es, fr.set t (.list .own sz es))
    | v => (v.sh, fr)
  | x => (opnd fr x, fr)

def takenAll (fr : Fr) : List Operand → List AV × Fr
  | [] => ([], fr)
  | x :: xs =>
    let (v, fr) := taken true fr x
    let (vs, fr) := takenAll fr xs
    (v :: vs, fr)

def isAgg (P : Program) (t : TypeId) : Bool :=
  match P.underlying t with
  | some (.struct _) | some (.array _ _) => true
  | _ => false

def aggOf (P : Program) (t : TypeId) : Option Bool :=
  match P.underlying t with
  | some (.struct _) | some (.array _ _) => some true
  | some _ => some false
  | none => none

def zeroA (P : Program) (t : TypeId) : Option AV := ((P.info? t).bind (·.zero)).bind AV.ofPlain

def pack (P : Program) (t : TypeId) (cs : List AV) : AV :=
  if isAgg P t then .agg cs else cs.getD 0 .undef

def newBox (heap : Bool) (cs : List AV) (σ : St) : Option (Ref × St) :=
  if heap then
    if underL 0 cs then some (.heap σ.heap.length, { σ with heap := σ.heap ++ [.cells cs] }) else none
  else
    if underL σ.stk.length cs then some (.stk σ.stk.length, { σ with stk := σ.stk ++ [cs] }) else none

def boxOf (σ : St) : Ref → Option (List AV)
  | .stk n => σ.stk[n]?
  | .heap n => match σ.heap[n]? with
    | some (.cells cs) => some cs
    | _ => none

def setBox (σ : St) (r : Ref) (cs : List AV) : St :=
  match r with
  | .stk n => { σ with stk := σ.stk.set n cs }
  | .heap n => { σ with heap := σ.heap.set n (.cells cs) }

/-- cells from a place on -/
def readCells (σ : St) (p : AV) (n : Nat) : Option (List AV) :=
  match p with
  | .ptr r off => (boxOf σ r).bind fun cs => if off + n ≤ cs.length then some (((cs.drop off).take n).map AV.look) else none
  | .rop cs => if n ≤ cs.length then some (cs.take n) else none
  | _ => none

def splice (cs : List AV) (off : Nat) (vs : List AV) : List AV :=
  match vs with
  | [v] => cs.set off v
  | _ => cs.take off ++ vs ++ cs.drop (off + vs.length)

def mayHold (r : Ref) (vs : List AV) : Bool :=
  match r with
  | .stk m => underL m vs
  | .heap _ => underL 0 vs

def writeCells (σ : St) (r : Ref) (off : Nat) (vs : List AV) : Option St :=
  (boxOf σ r).bind fun cs =>
    if off + vs.length ≤ cs.length && mayHold r vs then some (setBox σ r (splice cs off vs)) else none

def load (P : Program) (tk : Bool) (t : TypeId) (p : AV) (σ : St) : Option (AV × St) :=
  match aggOf P t with
  | some true => if P.cellsOf t = 0 then none else (readCells σ p (P.cellsOf t)).map fun cs => (.agg cs, σ)
  | some false => match tk, p with
    | true, .ptr r off => (boxOf σ r).bind fun cs => match cs[off]? with
      | some v => some (v, setBox σ r (splice cs off [v.sh]))
      | none => none
    | _, _ => match readCells σ p 1 with
      | some [v] => some (v, σ)
      | _ => none
  | none => none

def store (P : Program) (t : TypeId) (p : AV) (v : AV) (σ : St) : Option St :=
  match p with
  | .ptr r off => if v.cells.length = P.cellsOf t ∧ P.cellsOf t ≠ 0 ∧ v.fit then writeCells σ r off v.cells else none
  | _ => none

def fieldOf (P : Program) (s : TypeId) (f : Nat) : Option Field :=
  match P.underlying s with
  | some (.struct fs) => fs[f]?
  | _ => none

def shift (p : AV) (o : Nat) : Option AV :=
  match p with
  | .ptr r off => some (.ptr r (off + o))
  | .rop cs => some (.rop (cs.drop o))
  | _ => none

def indexAddr (P : Program) (t : TypeId) (x ix : AV) : Option AV :=
  match ix with
  | .s (.int _ i) =>
    match P.underlying t, x with
    | some (.array n e), x => if 0 ≤ i ∧ i < n ∧ P.cellsOf e ≠ 0 then shift x (i.toNat * P.cellsOf e) else none
    | some (.slice e), .list fl sz es => if fl ≠ .uniq ∧ sz = P.cellsOf e ∧ sz ≠ 0 ∧ 0 ≤ i ∧ i < es.length then some (.rop (es.getD i.toNat .undef).cells) else none
    | some (.slice e), .row r off len _ => if 0 ≤ i ∧ i < len ∧ P.cellsOf e ≠ 0 then some (.ptr r (off + i.toNat * P.cellsOf e)) else none
    | _, _ => none
  | _ => none

def partOf (P : Program) (t : TypeId) (cs : List AV) (off : Nat) : Option AV :=
  match aggOf P t with
  | some true => if off + P.cellsOf t ≤ cs.length ∧ P.cellsOf t ≠ 0 then some (.agg ((cs.drop off).take (P.cellsOf t))) else none
  | some false => cs[off]?
  | none => none

def index (P : Program) (t : TypeId) (x ix : AV) : Option AV :=
  match ix with
  | .s (.int _ i) =>
    match P.underlying t, x with
    | some (.array n e), .agg cs => if 0 ≤ i ∧ i < n ∧ P.cellsOf e ≠ 0 then partOf P e cs (i.toNat * P.cellsOf e) else none
    | some .string, .s (.str l) => if 0 ≤ i ∧ i < l.length then some (.s (.int .u8 (l.getD i.toNat 0).toNat)) else none
    | _, _ => none
  | _ => none

/-- The bounds of a slice expression, within its length. -/
def bound (x : Option AV) (d : Nat) : Option Nat :=
  match x with
  | none => some d
  | some (.s (.int _ i)) => if 0 ≤ i then some i.toNat else none
  | _ => none

def sliceOf (P : Program) (t : TypeId) (x : AV) (lo hi mx : Option AV) : Option AV :=
  match P.underlying t, x with
  | some .string, .s (.str l) =>
    match mx, bound lo 0, bound hi l.length with
    | none, some a, some b => if a ≤ b ∧ b ≤ l.length then some (.str ((l.take b).drop a)) else none
    | _, _, _ => none
  | some (.slice e), .s .nilS =>
    match mx, bound lo 0, bound hi 0 with
    | none, some 0, some 0 => if P.cellsOf e ≠ 0 then some .nilS else none
    | _, _, _ => none
  | some (.slice e), .list fl sz es =>
    if fl = .uniq then none else
    match mx, bound lo 0, bound hi es.length with
    | none, some a, some b => if a ≤ b ∧ b ≤ es.length ∧ sz = P.cellsOf e then some (.list (if fl = .full ∧ b = es.length then .full else .sh) sz ((es.take b).drop a)) else none
    | some m, some a, some b => match hi, bound (some m) 0 with
      | some _, some m => if a ≤ b ∧ b = m ∧ m ≤ es.length ∧ sz = P.cellsOf e then some (.list .full sz ((es.take b).drop a)) else none
      | _, _ => none
    | _, _, _ => none
  | some (.slice e), .row r off len cap =>
    match mx, bound lo 0, bound hi len with
    | none, some a, some b => if a ≤ b ∧ b ≤ cap ∧ a < cap ∧ P.cellsOf e ≠ 0 then some (.row r (off + a * P.cellsOf e) (b - a) (cap - a)) else none
    | some m, some a, some b => match hi, bound (some m) 0 with
      | some _, some m => if a = b ∧ b = m ∧ m ≤ cap ∧ P.cellsOf e ≠ 0 then some (.list .full (P.cellsOf e) []) else none
      | _, _ => none
    | _, _, _ => none
  | some (.array n e), .ptr r off =>
    match mx, bound lo 0, bound hi n with
    | none, some a, some b => if a ≤ b ∧ b ≤ n ∧ a < n ∧ P.cellsOf e ≠ 0 then some (.row r (off + a * P.cellsOf e) (b - a) (n - a)) else none
    | _, _, _ => none
  | some (.array n e), .rop cs =>
    match mx, bound lo 0, bound hi n with
    | none, some a, some b => if a ≤ b ∧ b ≤ n ∧ a < n ∧ P.cellsOf e = 1 ∧ n ≤ cs.length then some (.list .sh 1 ((cs.take b).drop a)) else none
    | _, _, _ => none
  | _, _ => none

def lenOf (P : Program) (t : TypeId) (x : AV) (σ : St) : Option Nat :=
  match P.underlying t, x with
  | some .string, .s (.str l) => some l.length
  | some (.slice _), .s .nilS => some 0
  | some (.slice _), .list _ _ es => some es.length
  | some (.slice _), .row _ _ len _ => some len
  | some (.map _ _), .s .nilM => some 0
  | some (.map _ _), .map h => match σ.heap[h]? with
    | some (.map es _) => some es.length
    | _ => none
  | some (.array n _), .agg _ => some n
  | _, _ => none

def capOf (P : Program) (t : TypeId) (x : AV) : Option Nat :=
  match P.underlying t, x with
  | some (.slice _), .s .nilS => some 0
  | some (.slice _), .list .full _ es => some es.length
  | _, _ => none

/-- cells as elements -/
def group (P : Program) (e : TypeId) : Nat → List AV → List AV
  | 0, _ => []
  | n + 1, cs => pack P e (cs.take (P.cellsOf e)) :: group P e n (cs.drop (P.cellsOf e))

def bytesOf (P : Program) (e : TypeId) : Nat := ((P.info? e).map (·.bytes)).getD 0

/-- An element type of which slices may be made. -/
def elemOK (P : Program) (e : TypeId) : Bool :=
  match zeroA P e with
  | some z => z.cells.length == P.cellsOf e && P.cellsOf e != 0 && bytesOf P e != 0
  | none => false

/-- What is appended or copied: elements. -/
def elems (P : Program) (e : TypeId) (x : AV) (σ : St) : Option (List AV) :=
  match x with
  | .s .nilS => some []
  | .s (.str l) => if P.cellsOf e = 1 then some (l.map fun b => .s (.int .u8 b.toNat)) else none
  | .list _ sz es => if sz = P.cellsOf e then some es else none
  | .row r off len _ => if isAgg P e || P.cellsOf e == 1 then (readCells σ (.ptr r off) (len * P.cellsOf e)).map (group P e len) else none
  | _ => none

def AV.isStr : AV → Bool
  | .s (.str _) => true
  | _ => false

def AV.isSlice : AV → Bool
  | .s .nilS | .list .. | .row .. => true
  | _ => false

/-- Is the type that of the value: a string's or a slice's? -/
def srcOK (P : Program) (t : Option TypeId) (x : AV) : Bool :=
  match t with
  | none => false
  | some t => match P.underlying t with
    | some .string => x.isStr
    | some (.slice _) => x.isSlice
    | _ => false

def append (P : Program) (sT : TypeId) (xT : Option TypeId) (s x : AV) (σ : St) : Option (AV × St) :=
  match P.underlying sT with
  | some (.slice e) =>
    if !(srcOK P xT x && elemOK P e) then none else
    match elems P e x σ with
    | none => none
    | some items =>
      if !AV.under.go 0 items then none else
      match s with
      | .s .nilS =>
        if items.isEmpty then some (.nilS, σ) else
        if items.length * bytesOf P e ≤ 2 ^ 48 then some (.list .uniq (P.cellsOf e) items, σ) else none
      | .list fl sz es =>
        if sz ≠ P.cellsOf e then none else
        if items.isEmpty then some (.list fl sz es, σ) else
        match fl with
        | .sh => none
        | .full => if es.isEmpty then (if items.length * bytesOf P e ≤ 2 ^ 48 then some (.list .uniq sz items, σ) else none)
          else if 2 * (es.length + items.length) * bytesOf P e ≤ 2 ^ 48 then some (.list .own sz (es ++ items), σ) else none
        | .own => if 2 * (es.length + items.length) * bytesOf P e ≤ 2 ^ 48 then some (.list .own sz (es ++ items), σ) else none
        | .uniq => if 2 * (es.length + items.length) * bytesOf P e ≤ 2 ^ 48 then some (.list .uniq sz (es ++ items), σ) else none
      | .row r off len cap =>
        if len + items.length ≤ cap ∧ items ≠ [] then
          (writeCells σ r (off + len * P.cellsOf e) (items.flatMap AV.cells)).map fun σ => (.row r off (len + items.length) cap, σ)
        else none
      | _ => none
  | _ => none

def copyTo (P : Program) (dT : TypeId) (xT : Option TypeId) (d x : AV) (σ : St) : Option (AV × St) :=
  match P.underlying dT with
  | some (.slice e) =>
    if !(srcOK P xT x && elemOK P e) then none else
    match d, elems P e x σ with
    | .row r off len _, some items =>
      let items := items.take len
      (writeCells σ r off (items.flatMap AV.cells)).map fun σ => (.i items.length, σ)
    | _, _ => none
  | _ => none

/-! ### Maps -/
/-- Are keys of this type told apart at sight? -/
def nowKind : TypeDesc → Bool
  | .int _ | .string | .bool => true
  | _ => false

def keyEq (P : Program) (kT : TypeId) (a b : AV) : Option Bool :=
  match a.toV, b.toV, P.underlying kT with
  | some x, some y, some d => if nowKind d then Instr.sameNow d x y else val P (Op.equal kT x y)
  | _, _, _ => none

def findA (P : Program) (kT : TypeId) (k : AV) : List Entry → Nat → Option (Option (Nat × Entry))
  | [], _ => some none
  | e :: es, i => match keyEq P kT k e.key with
    | some true => some (some (i, e))
    | some false => findA P kT k es (i + 1)
    | none => none

def keyMay (P : Program) (kT : TypeId) (k : AV) : Bool :=
  match k.toV with
  | some x => (val P (Instr.checkKey false 10000 kT x)).isSome && (val P (Instr.checkKey true 10000 kT x)).isSome
  | none => false

def mapOf (σ : St) (m : AV) : Option (List Entry × Nat) :=
  match m with
  | .s .nilM => some ([], 0)
  | .map h => match σ.heap[h]? with
    | some (.map es c) => some (es, c)
    | _ => none
  | _ => none

def lookup (P : Program) (t : TypeId) (m k : AV) (ok : Bool) (σ : St) : Option AV :=
  match P.underlying t with
  | some (.map kT eT) =>
    if !keyMay P kT k then none else
    match mapOf σ m with
    | none => none
    | some (es, _) => match findA P kT k es 0 with
      | some (some (_, e)) => some (if ok then .tup [e.val, .bool true] else e.val)
      | some none => (zeroA P eT).map fun z => if ok then .tup [z, .bool false] else z
      | none => none
  | _ => none

def setMap (σ : St) (h : Nat) (es : List Entry) (c : Nat) : St := { σ with heap := σ.heap.set h (.map es c) }

def update (P : Program) (t : TypeId) (m k v : AV) (σ : St) : Option St :=
  match P.underlying t with
  | some (.map kT _) =>
    if !keyMay P kT k || !AV.under 0 v then none else
    match m with
    | .map h => match mapOf σ (.map h) with
      | none => none
      | some (es, c) => match findA P kT k es 0 with
        | some (some (i, e)) => match e.key.toV, k.toV with
          | some old, some new => if Instr.sameBits 10000 old new then some (setMap σ h (es.set i { e with key := k, val := v }) c) else none
          | _, _ => none
        | some none => some (setMap σ h (es ++ [⟨k, v, c⟩]) (c + 1))
        | none => none
    | _ => none
  | _ => none

def deleteA (P : Program) (t : TypeId) (m k : AV) (σ : St) : Option St :=
  match P.underlying t with
  | some (.map kT _) =>
    if !keyMay P kT k then none else
    match m with
    | .s .nilM => some σ
    | .map h => match mapOf σ (.map h) with
      | none => none
      | some (es, c) => match findA P kT k es 0 with
        | some (some (i, _)) => some (setMap σ h (es.eraseIdx i) c)
        | some none => some (setMap σ h es c)
        | none => none
    | _ => none
  | _ => none

/-! ### Literals -/
def fillA (place : Nat → Option (Nat × Nat)) (cs : List AV) : List (Nat × AV) → Option (List AV)
  | [] => some cs
  | (i, v) :: rest => match place i with
    | none => none
    | some (off, size) => if v.cells.length ≠ size ∨ off + size > cs.length ∨ !v.fit then none else fillA place (cs.take off ++ v.cells ++ cs.drop (off + size)) rest

/-- Where a struct's fields lie, and how many cells they take. -/
def structPlaces (P : Program) (t : TypeId) : Option (List (Nat × Nat)) :=
  match P.underlying t with
  | some (.struct fields) => fields.toList.mapM fun f => (P.info? f.type).map fun i => (f.offset, i.size)
  | _ => none

def arrayCells (P : Program) (t : TypeId) : Option Nat :=
  match P.underlying t with
  | some (.array _ e) => (P.info? e).map (·.size)
  | _ => none

def build (P : Program) (t : TypeId) (parts : List (Nat × AV)) : Option AV :=
  match zeroA P t with
  | none => none
  | some z => match structPlaces P t with
    | some places => (fillA (fun i => places[i]?) z.cells parts).map .agg
    | none => match arrayCells P t with
      | some n => (fillA (fun i => some (i * n, n)) z.cells parts).map .agg
      | none => none

def fillE (n : Nat) (es : List AV) : List (Nat × AV) → Option (List AV)
  | [] => some es
  | (i, v) :: rest => if v.cells.length = n ∧ i < es.length ∧ AV.under 0 v ∧ v.fit then fillE n (es.set i v) rest else none

def buildSlice (P : Program) (t : TypeId) (len : Nat) (parts : List (Nat × AV)) : Option AV :=
  match P.underlying t with
  | some (.slice e) =>
    if len = 0 then (if elemOK P e ∧ parts.isEmpty then some (.list .full (P.cellsOf e) []) else none) else
    if !elemOK P e ∨ len * P.cellsOf e > 2 ^ 24 then none else
    match zeroA P e with
    | some z => (fillE (P.cellsOf e) (List.replicate len z) parts).map (.list .full (P.cellsOf e))
    | none => none
  | _ => none

def makeSlice (P : Program) (asList heap : Bool) (t : TypeId) (len cap : AV) (σ : St) : Option (AV × St) :=
  match P.underlying t, len, cap with
  | some (.slice e), .s (.int _ l), .s (.int _ c) =>
    if 0 ≤ l ∧ l ≤ c ∧ c ≤ 2 ^ 32 ∧ bytesOf P e * c ≤ 2 ^ 47 ∧ elemOK P e then
      match zeroA P e with
      | some z =>
        if asList then some (.list .uniq (P.cellsOf e) (List.replicate l.toNat z), σ)
        else (newBox heap (List.replicate c.toNat z.cells).flatten σ).map fun (r, σ) => (.row r 0 l.toNat c.toNat, σ)
      | none => none
    else none
  | _, _, _ => none

/-! ### Operators -/
/-- What leads into memory, and what is nil: 0 pointers, 1 slices, 2 maps, 3 functions. -/
def AV.refKind : AV → Option Nat
  | .ptr .. | .rop _ => some 0
  | .list .. | .row .. => some 1
  | .map _ => some 2
  | .fn .. => some 3
  | _ => none

def AV.nilKind : AV → Option Nat
  | .s .nilP => some 0
  | .s .nilS => some 1
  | .s .nilM => some 2
  | .s .nilF => some 3
  | _ => none

def typeKind (P : Program) (t : TypeId) : Option Nat :=
  match P.underlying t with
  | some (.pointer _) => some 0
  | some (.slice _) => some 1
  | some (.map ..) => some 2
  | some (.func ..) => some 3
  | _ => none

/-- Is one nil, and the other is not? -/
def oneNil (P : Program) (t : TypeId) (x y : AV) : Bool :=
  match typeKind P t with
  | some k => (x.refKind == some k && y.nilKind == some k) || (x.nilKind == some k && y.refKind == some k)
  | none => false

def binOp (P : Program) (op : BinOp) (t : TypeId) (xo yo : Operand) (x y : AV) : Option AV :=
  match x.toV, y.toV with
  | some a, some b => (val P (do eqGuard op t xo yo a b; Go.binOp op t a b)).bind AV.ofPlain
  | _, _ =>
    if oneNil P t x y then match op with
      | .eql => some (.bool false)
      | .neq => some (.bool true)
      | _ => none
    else none

def unOp (P : Program) (op : UnOp) (x : AV) : Option AV :=
  match x with
  | .s x => (val P (Op.unary op x.toV)).bind AV.ofPlain
  | _ => none

def bytesIn : List AV → Option (List UInt8)
  | [] => some []
  | .s (.int .u8 n) :: r => (bytesIn r).map (UInt8.ofNat n.toNat :: ·)
  | _ => none

def convert (P : Program) (src dst : TypeId) (x : AV) (σ : St) : Option AV :=
  match P.underlying src, P.underlying dst, x with
  | some _, some (.int k), .s (.int _ n) => some (.s (.int k (k.wrap n)))
  | some _, some .string, .s (.str l) => some (.str l)
  | some .string, some (.slice e), .s (.str l) => match P.underlying e with
    | some (.int .u8) => if l.length < 2 ^ 46 ∧ elemOK P e ∧ P.cellsOf e = 1 then some (.list .uniq 1 (l.map fun b => .s (.int .u8 b.toNat))) else none
    | _ => none
  | some (.slice e), some .string, x => match P.underlying e with
    | some (.int .u8) => if x.isSlice && P.cellsOf e == 1 then ((elems P e x σ).bind bytesIn).map .str else none
    | _ => none
  | _, _, _ => none

/-- A list that nobody else sees becomes a row. -/
def thaw (fr : Fr) (x : Operand) (σ : St) : Option (AV × Fr × St) :=
  match x with
  | .tmp t => match fr.getD t .undef with
    | .list .uniq _ es => if es.isEmpty then none else (newBox false (es.flatMap AV.cells) σ).map fun (r, σ) => (.row r 0 es.length es.length, fr.set t (.row r 0 es.length es.length), σ)
    | .s .nilS => some (.nilS, fr, σ)
    | _ => none
  | _ => none

/-- A row that is written no more becomes a list; its box is gone. -/
def freeze (P : Program) (t : TypeId) (v : AV) (σ : St) : Option (AV × St) :=
  match P.underlying t, v with
  | some (.slice e), .row (.stk n) 0 len _ =>
    (readCells σ (.ptr (.stk n) 0) (len * P.cellsOf e)).bind fun cs =>
      if underL 0 cs ∧ 0 < P.cellsOf e ∧ (isAgg P e || P.cellsOf e == 1) then some (.list .sh (P.cellsOf e) (group P e len cs), { σ with stk := σ.stk.set n [] }) else none
  | some (.slice _), .s .nilS => some (.nilS, σ)
  | _, _ => none

/-- The builtin 'clear' of a slice. -/
def clearA (P : Program) (t : TypeId) (v : AV) (σ : St) : Option St :=
  match P.underlying t, v with
  | some (.slice e), .row r off len _ => (zeroA P e).bind fun z => if elemOK P e then writeCells σ r off (List.replicate len z.cells).flatten else none
  | some (.slice _), .s .nilS => some σ
  | some (.slice _), .list _ _ [] => some σ
  | _, _ => none

def argVals (fr : Fr) (xs : List Operand) : List AV := xs.map (opnd fr)

/-- What an operation yields, the frame and the state behind it. -/
def evOp (C : Tgt → List AV → St → Option (AV × St)) (P : Program) (cfg : Cfg) (f : FuncId) (o : Oper) (fr : Fr) (σ : St) : Option (AV × Fr × St) :=
  let d := o.dst.getD 0
  let hp := cfg.heap f d
  let tk := cfg.take f d
  let pureA (v : Option AV) : Option (AV × Fr × St) := v.map fun v => (v, fr, σ)
  match o.op with
  | .move x => if cfg.thaw f d then thaw fr x σ else if cfg.freeze f d then (freeze P o.type (seen fr x) σ).map fun (v, σ) => (v, fr, σ)
    else let r := taken tk fr x; some (r.1, r.2, σ)
  | .assign x => if cfg.freeze f d then (freeze P o.type (seen fr x) σ).map fun (v, σ) => (v, fr, σ)
    else let r := taken true fr x; some (r.1, r.2, σ)
  | .pick c a b => match seen fr c with
    | .s (.bool c) => some ((if c then seen fr a else seen fr b), fr, σ)
    | _ => none
  | .alloc t => (zeroA P t).bind fun z => (newBox hp z.cells σ).map fun (r, σ) => (.ptr r 0, fr, σ)
  | .box _ x => let r := taken tk fr x; if !r.1.fit then none else (newBox hp r.1.calm.cells σ).map fun (q, σ) => (.ptr q 0, r.2, σ)
  | .build t parts => pureA (build P t (parts.toList.map fun (i, x) => (i, seen fr x)))
  | .buildSlice t n parts => pureA (buildSlice P t n (parts.toList.map fun (i, x) => (i, seen fr x)))
  | .load t x => (load P tk t (seen fr x) σ).map fun (v, σ) => (v, fr, σ)
  | .store t p x => let r := taken true fr x; (store P t (seen r.2 p) r.1.calm σ).map fun σ => (.undef, r.2, σ)
  | .nilCheck x => match seen fr x with
    | .ptr r o => some (.ptr r o, fr, σ)
    | .rop cs => some (.rop cs, fr, σ)
    | .map h => some (.map h, fr, σ)
    | .fn (.func g) a c => some (.fn (.func g) a c, fr, σ)
    | _ => none
  | .binOp op t x y _ => pureA (binOp P op t x y (seen fr x) (seen fr y))
  | .unOp op _ x => pureA (unOp P op (seen fr x))
  | .convert a b x => pureA (convert P a b (seen fr x) σ)
  | .makeFunc fn first captured => pureA (some (.fn fn (first.toList.map fun x => seen fr x) (captured.toList.map fun x => seen fr x)))
  | .makeMap t r => match r with
    | none => some (.map σ.heap.length, fr, { σ with heap := σ.heap ++ [.map [] 0] })
    | some x => match P.underlying t, seen fr x with
      | some (.map ..), .s (.int ..) => some (.map σ.heap.length, fr, { σ with heap := σ.heap ++ [.map [] 0] })
      | _, _ => none
  | .makeSlice t l c => (makeSlice P tk hp t (seen fr l) (seen fr c) σ).map fun (v, σ) => (v, fr, σ)
  | .slice t x lo hi mx => pureA (sliceOf P t (seen fr x) (lo.map (seen fr)) (hi.map (seen fr)) (mx.map (seen fr)))
  | .fieldAddr s x i => pureA ((fieldOf P s i).bind fun q => if P.cellsOf q.type = 0 then none else shift (seen fr x) q.offset)
  | .field s x i => pureA ((fieldOf P s i).bind fun q => match seen fr x with
    | .agg cs => partOf P q.type cs q.offset
    | _ => none)
  | .indexAddr t x ix => pureA (indexAddr P t (seen fr x) (seen fr ix))
  | .index t x ix => pureA (index P t (seen fr x) (seen fr ix))
  | .lookup t x ix ok => pureA (lookup P t (seen fr x) (seen fr ix) ok σ)
  | .mapUpdate t m k v | .insert t m k v => (update P t (seen fr m) (seen fr k) (seen fr v) σ).map fun σ => (.undef, fr, σ)
  | .extract x i => pureA (match seen fr x with
    | .tup vs => vs[i]?
    | _ => none)
  | .call c => match c.callee with
    | .builtin .len => pureA (match c.argTypes.toList, c.args.toList with
      | [t], [x] => (lenOf P t (seen fr x) σ).map fun (n : Nat) => AV.i n
      | _, _ => none)
    | .builtin .cap => pureA (match c.argTypes.toList, c.args.toList with
      | [t], [x] => (capOf P t (seen fr x)).map fun (n : Nat) => AV.i n
      | _, _ => none)
    | .builtin .append => match c.argTypes.toList, c.args.toList with
      | [t, tx], [s, x] => let r := taken true fr s; (append P t (some tx) r.1 (seen r.2 x) σ).map fun (v, σ) => (v, r.2, σ)
      | _, _ => none
    | .builtin .copy => match c.argTypes.toList, c.args.toList with
      | [t, tx], [d, x] => (copyTo P t (some tx) (seen fr d) (seen fr x) σ).map fun (v, σ) => (v, fr, σ)
      | _, _ => none
    | .builtin .delete => match c.argTypes.toList, c.args.toList with
      | t :: _, [m, k] => (deleteA P t (seen fr m) (seen fr k) σ).map fun σ => (.tup [], fr, σ)
      | _, _ => none
    | .builtin .clear => match c.argTypes.toList, c.args.toList with
      | [t], [x] => (clearA P t (seen fr x) σ).map fun σ => (.tup [], fr, σ)
      | _, _ => none
    | .builtin .min => match c.args.toList.map (seen fr) with
      | [.s (.int k a), .s (.int k' b)] => if k = k' then some (.s (.int k (if b < a then b else a)), fr, σ) else none
      | _ => none
    | .builtin .max => match c.args.toList.map (seen fr) with
      | [.s (.int k a), .s (.int k' b)] => if k = k' then some (.s (.int k (if b > a then b else a)), fr, σ) else none
      | _ => none
    | .value g => match seen fr g with
      | .fn (.func h) first captured =>
        let r := takenAll fr c.args.toList
        (C (.fn h) (first ++ r.1 ++ captured) σ).map fun (v, σ) => (v, r.2, σ)
      | .yield h =>
        let r := takenAll fr c.args.toList
        (C (.yield h) r.1 σ).map fun (v, σ) => (v, r.2, σ)
      | _ => none
    | _ => none
  | _ => none

/-- Operands that are looked at, and may be one's own alone: from now on they are not. -/
def settled : Op → List Operand
  | .build _ ps => ps.toList.map (·.2)
  | .buildSlice _ _ ps => ps.toList.map (·.2)
  | .mapUpdate _ _ _ v => [v]
  | .insert _ _ _ v => [v]
  | .call c => match c.callee with
    | .builtin .append => c.args.toList.drop 1
    | _ => []
  | _ => []

def settle (fr : Fr) : List Operand → Fr
  | [] => fr
  | x :: xs => settle (taken false fr x).2 xs

def putA (dst : Option Tmp) (v : AV) (fr : Fr) : Fr :=
  match dst with
  | some d => fr.set d v
  | none => fr

/-- What a guard saw: 'tup []' stands where an operation was passed by. -/
def guardA (ops : Array Oper) (fr : Fr) (o : Oper) : Option Bool :=
  match o.guard with
  | none => some true
  | some (j, want) => match (ops[j]?).bind (·.dst) with
    | some d => match fr[d]? with
      | some (.s (.bool b)) => some (b == want)
      | some (.tup []) => some false
      | _ => none
    | none => none

/-- One operation of a region. -/
def stepA (C : Tgt → List AV → St → Option (AV × St)) (P : Program) (cfg : Cfg) (f : FuncId) (ops : Array Oper) (i : Nat) (fr : Fr) (σ : St) : Option (Fr × St) :=
  match ops[i]? with
  | none => none
  | some o => match guardA ops fr o with
    | some true => match evOp C P cfg f o (settle fr (settled o.op)) σ with
      | some (v, fr, σ) => some (putA o.dst v fr, σ)
      | none => none
    | some false => some (putA o.dst (.tup []) fr, σ)
    | none => none

def evOps (C : Tgt → List AV → St → Option (AV × St)) (P : Program) (cfg : Cfg) (f : FuncId) (ops : Array Oper) : List Nat → Fr → St → Option (Fr × St)
  | [], fr, σ => some (fr, σ)
  | i :: rest, fr, σ => match stepA C P cfg f ops i fr σ with
    | some (fr, σ) => evOps C P cfg f ops rest fr σ
    | none => none

/-- An operation that only reads. -/
def readerOp (cfg : Cfg) (f : FuncId) (o : Oper) : Bool :=
  match o.op with
  | .move _ => !cfg.thaw f (o.dst.getD 0) && !cfg.freeze f (o.dst.getD 0) && !cfg.take f (o.dst.getD 0)
  | .load _ _ => !cfg.take f (o.dst.getD 0)
  | .pick .. | .nilCheck _ | .binOp .. | .unOp .. | .convert .. | .fieldAddr .. | .field .. | .indexAddr .. | .index .. | .lookup .. | .extract .. | .slice .. | .makeFunc .. | .build .. | .buildSlice .. => true
  | .call c => match c.callee with
    | .builtin .len | .builtin .cap => true
    | _ => false
  | _ => false

def AV.isUniq : AV → Bool
  | .list .uniq _ _ => true
  | _ => false

def calmAt (fr : Fr) : Operand → Bool
  | .tmp t => !(fr.getD t .undef).isUniq
  | _ => true

def readV (C : Tgt → List AV → St → Option (AV × St)) (P : Program) (cfg : Cfg) (f : FuncId) (ops : Array Oper) (i : Nat) (fr : Fr) (σ : St) : Option AV :=
  match ops[i]? with
  | none => none
  | some o => match guardA ops fr o with
    | some true => if readerOp cfg f o && o.op.operands.toList.all (calmAt fr) then (evOp C P cfg f o fr σ).map (·.1) else none
    | some false => some (.tup [])
    | none => none

/-- Does what it reads hang on memory that may be written? -/
def depA (ops : Array Oper) (i : Nat) (fr : Fr) : Bool :=
  match ops[i]? with
  | some o => match o.op with
    | .load _ x => match seen fr x with
      | .rop _ => false
      | _ => true
    | .lookup .. => true
    | .convert _ _ x => match seen fr x with
      | .row .. => true
      | _ => false
    | .call c => match c.args[0]? with
      | some x => match seen fr x with
        | .map _ => true
        | _ => false
      | none => true
    | _ => false
  | none => true

def dstOf (ops : Array Oper) (i : Nat) : Option Tmp := (ops[i]?).bind (·.dst)

def isReader (cfg : Cfg) (f : FuncId) (ops : Array Oper) (i : Nat) : Bool :=
  match ops[i]? with
  | some o => readerOp cfg f o
  | none => false

def sameV (x : Option AV) (v : AV) : Bool :=
  match x with
  | some u => u.beq v
  | none => false

/-- Is it sure that j comes behind k? -/
def hangsOn (ops : Array Oper) (j k : Nat) : Bool :=
  match ops[j]? with
  | some o => o.after.any fun e => Region.binds .any e && e.on == k
  | none => false

def evPlan (C : Tgt → List AV → St → Option (AV × St)) (P : Program) (cfg : Cfg) (f : FuncId) (ops : Array Oper) : List Nat → Fr → St → List (Nat × (St → Bool)) → Option (Fr × St)
  | [], fr, σ, _ => some (fr, σ)
  | i :: rest, fr, σ, chk =>
    if isReader cfg f ops i then
      match readV C P cfg f ops i fr σ with
      | some v => evPlan C P cfg f ops rest (putA (dstOf ops i) v fr) σ (if depA ops i fr then (i, fun σ' => sameV (readV C P cfg f ops i fr σ') v) :: chk else chk)
      | none => none
    else match stepA C P cfg f ops i fr σ with
      | some (fr', σ') => if (chk.filter fun c => !hangsOn ops i c.1).all (fun c => c.2 σ') then evPlan C P cfg f ops rest fr' σ' (chk.filter fun c => !hangsOn ops i c.1) else none
      | none => none

def maskOf : List Nat → Nat
  | [] => 0
  | t :: l => maskOf l ||| 2 ^ t

structure Info where
  edges : Nat
  looks : Nat
  dst : Option Nat
  rd : Bool

def infoOf (cfg : Cfg) (f : FuncId) (ops : Array Oper) (o : Oper) : Info :=
  { edges := maskOf ((o.after.toList.filter (Region.binds .any)).map (·.on)), looks := maskOf (o.looksAt ops), dst := o.dst, rd := readerOp cfg f o }

def Info.ready (I : Info) (i listed : Nat) : Bool := !listed.testBit i && (I.edges &&& listed == I.edges)

def Info.apart (x y : Info) : Bool :=
  (match x.dst with
   | some d => !y.looks.testBit d && y.dst != some d
   | none => true) &&
  (match y.dst with
   | some d => !x.looks.testBit d
   | none => true)

def allFrom (p : Info → Nat → Bool) : List Info → Nat → Bool
  | [], _ => true
  | I :: l, i => p I i && allFrom p l (i + 1)

def nth : List Info → Nat → Option Info
  | [], _ => none
  | I :: _, 0 => some I
  | _ :: l, n + 1 => nth l n

/-- May the region be run in that order? -/
def planFast (is : List Info) : List Nat → Nat → Bool
  | [], listed => allFrom (fun I i => !I.ready i listed) is 0
  | i :: rest, listed =>
    match nth is i with
    | none => false
    | some I => I.ready i listed &&
      (if I.rd then allFrom (fun J j => j == i || listed.testBit j || J.edges.testBit i || I.apart J) is 0
        else allFrom (fun J j => j == i || !J.ready j listed) is 0) &&
      planFast is rest (listed ||| 2 ^ i)

def plansIn (cfg : Cfg) (f : FuncId) : Code → Bool
  | .region id ops true => (cfg.plan f id).isEmpty || (decide ((cfg.plan f id).length ≤ ops.size) && planFast (ops.toList.map (infoOf cfg f ops)) (cfg.plan f id) 0)
  | .seq a b => plansIn cfg f a && plansIn cfg f b
  | .cond _ a b => plansIn cfg f a && plansIn cfg f b
  | .block _ b => plansIn cfg f b
  | .loop b => plansIn cfg f b
  | .rangeFunc _ _ a b => plansIn cfg f a && plansIn cfg f b
  | _ => true

def plansOK (P : Program) (cfg : Cfg) : Bool :=
  (List.range P.funcs.size).all fun f => match P.funcs[f]? with
    | some fn => match fn.body with
      | some c => plansIn cfg f c
      | none => true
    | none => true

def keep : List Bool → Fr → Fr
  | true :: m, x :: xs => x :: keep m xs
  | false :: m, _ :: xs => .undef :: keep m xs
  | _, xs => xs

def evLoop (body : Fr → St → Option (Ex × Fr × St)) (mask : List Bool) (n0 : Nat) : Nat → Fr → St → Option (Ex × Fr × St)
  | 0, _, _ => none
  | n + 1, fr, σ =>
    let fr := keep mask fr
    if underL n0 fr then
      match body fr { σ with stk := σ.stk.take n0 } with
      | some (.normal, fr, σ) => evLoop body mask n0 n fr σ
      | r => r
    else none

def hasBody (P : Program) (h : FuncId) : Bool :=
  match P.funcs[h]? with
  | some fn => fn.body.isSome
  | none => false

/-- What may be kept with a loop. -/
def lasting (v : AV) : AV := if AV.under 0 v.look then v.look else .undef

def evCode (C : Tgt → List AV → St → Option (AV × St)) (P : Program) (cfg : Cfg) (n : Nat) (rd : Bool) (f : FuncId) : Nat → Code → Fr → St → Option (Ex × Fr × St)
  | _, .skip, fr, σ => some (.normal, fr, σ)
  | _, .region _ ops false, fr, σ => (evOps C P cfg f ops (List.range ops.size) fr σ).map fun (fr, σ) => (.normal, fr, σ)
  | _, .region id ops true, fr, σ => if (cfg.plan f id).isEmpty then none else (evPlan C P cfg f ops (cfg.plan f id) fr σ []).map fun (fr, σ) => (.normal, fr, σ)
  | k, .seq a b, fr, σ => match evCode C P cfg n rd f k a fr σ with
    | some (.normal, fr, σ) => evCode C P cfg n rd f k b fr σ
    | r => r
  | k, .cond c a b, fr, σ => match opnd fr c with
    | .s (.bool true) => evCode C P cfg n rd f k a fr σ
    | .s (.bool false) => evCode C P cfg n rd f k b fr σ
    | _ => none
  | _, .block id b, fr, σ => match evCode C P cfg n rd f id b fr σ with
    | some (.exit id', fr, σ) => if id' = id then some (.normal, fr, σ) else some (.exit id', fr, σ)
    | r => r
  | k, .loop b, fr, σ => evLoop (evCode C P cfg n rd f k b) (cfg.mask f k) σ.stk.length n fr σ
  | _, .exit id, fr, σ => some (.exit id, fr, σ)
  | _, .ret, fr, σ => some (.ret, fr, σ)
  | _, .rangeFunc g ps a b, fr, σ =>
    if rd then none else
    match seen fr g with
    | .fn (.func h) first captured =>
      if !hasBody P h then none else
      match C (.fn h) (first ++ [.yield σ.heap.length] ++ captured) { σ with heap := σ.heap ++ [.loop { fid := f, fr := fr.map lasting, params := ps.toList, assign := a, body := b, ready := true, pending := none }] } with
      | some (_, σ') => match σ'.heap[σ.heap.length]? with
        | some (.loop l) => if l.ready || l.pending.isSome then some (l.pending.getD .normal, fr, { σ' with heap := σ'.heap.set σ.heap.length .dead }) else none
        | _ => none
      | none => none
    | _ => none
  | _, _, _, _ => none

def setAll : List Tmp → List AV → Fr → Fr
  | t :: ts, v :: vs, fr => setAll ts vs (fr.set t v)
  | _, _, fr => fr

def setLoop (σ : St) (h : Nat) (l : LoopA) : St := { σ with heap := σ.heap.set h (.loop l) }

def loopOf (σ : St) (h : Nat) : Option LoopA :=
  match σ.heap[h]? with
  | some (.loop l) => some l
  | _ => none

/-- A round of a range over a function. -/
def evRound (C : Tgt → List AV → St → Option (AV × St)) (P : Program) (cfg : Cfg) (n : Nat) (h : Nat) (args : List AV) (σ : St) : Option (AV × St) :=
  match loopOf σ h with
  | some l =>
    if args.length = l.params.length && plansIn cfg l.fid l.assign && plansIn cfg l.fid l.body then
      match evCode C P cfg n true l.fid 0 l.assign (setAll l.params (args.map AV.look) l.fr) σ with
      | some (.normal, fr, σ1) => match loopOf σ1 h with
        | some l1 => if l1.ready && l1.pending.isNone then
            match evCode C P cfg n true l.fid 0 l.body fr (setLoop σ1 h { l1 with ready := false }) with
            | some (e, _, σ') => match loopOf σ' h with
              | some l2 => some (.bool (e = .normal), { setLoop σ' h { l2 with ready := decide (e = .normal), pending := if e = .normal then none else some e } with stk := σ'.stk.take σ.stk.length })
              | none => none
            | none => none
          else none
        | none => none
      | _ => none
    else none
  | none => none


def resultA (P : Program) (fr : Fr) (σ : St) : ResultVar → Option AV
  | .tmp t => some (fr.getD t .undef)
  | .cell a t => (load P false t (fr.getD a .undef) σ).map (·.1)

def resultsA (P : Program) (fr : Fr) (σ : St) : List ResultVar → Option (List AV)
  | [] => some []
  | r :: rs => match resultA P fr σ r, resultsA P fr σ rs with
    | some v, some vs => some (v :: vs)
    | _, _ => none

def finish (P : Program) (base : Nat) (fn : Func) (fr : Fr) (σ : St) : Option (AV × St) :=
  match resultsA P fr σ fn.results.toList with
  | some [v] => if v.under base then some (v, { σ with stk := σ.stk.take base }) else none
  | some vs => if underL base vs then some (.tup (vs.map AV.look), { σ with stk := σ.stk.take base }) else none
  | none => none

def evBody (C : Tgt → List AV → St → Option (AV × St)) (P : Program) (cfg : Cfg) (n : Nat) (f : FuncId) (args : List AV) (σ : St) : Option (AV × St) :=
  match P.funcs[f]? with
  | some fn => match fn.body with
    | some c => match evCode C P cfg n false f 0 c (args ++ List.replicate (fn.ntmps - args.length) .undef) σ with
      | some (.normal, fr, σ') | some (.ret, fr, σ') => finish P σ.stk.length fn fr σ'
      | _ => none
    | none => none
  | none => none

def ev (P : Program) (cfg : Cfg) : Nat → Tgt → List AV → St → Option (AV × St)
  | 0, _, _, _ => none
  | n + 1, .fn f, args, σ => match cfg.prim f with
    | some p => p args σ
    | none => evBody (ev P cfg n) P cfg n f args σ
  | n + 1, .yield h, args, σ => evRound (ev P cfg n) P cfg n h args σ

end Go.AM
