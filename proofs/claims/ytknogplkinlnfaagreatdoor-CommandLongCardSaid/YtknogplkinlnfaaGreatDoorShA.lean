/- A machine over plain values, and how its values and memory stand for the model's: no conditions. -/
import GoSem.Step
import Derived.OrdersIn
import Derived.RangeFuncIn
import Derived.RangeFuncLeaves
import Derived.Deep.AppendSrc
import Derived.Laws.Slices
import Derived.Laws.Rows
import Derived.WalkKit
import Derived.Laws.Entries
import Derived.Laws.Strings
import Derived.Laws.StructEq
import Derived.Lib.ConvBytes
import Derived.Laws.BytesString
import Derived.Lib.Strings
import Derived.Laws.MakeOwn
set_option linter.unusedVariables false
set_option linter.unusedSimpArgs false
set_option linter.unusedSectionVars false
namespace Go.Shadow
open Go

/-! ## The shadow's values, code and machine. -/

inductive AVal where
  | bool (b : Bool)
  | int (k : IntKind) (n : Int)
  | str (s : List UInt8)
  | nilPtr
  | ptr (b ver off : Nat)
  | iptr (cells : List AVal)
  | nilSlice
  | islice (n : Nat) (full : Bool) (cells : List AVal)
  | mslice (b ver off len size lb : Nat) (exact : Bool)
  | nilMap
  | map (b : Nat)
  | func (fn : Fn) (first captured : List AVal)
  | nilFunc
  | yield (b : Nat)
  | iter (b : Nat)
  | iface (t : TypeId) (v : AVal)
  | nilIface
  | agg (cells : List AVal)
  | tuple (vs : List AVal)
  | unk
  deriving Inhabited, Repr

def AVal.cells : AVal → List AVal
  | .agg cs => cs
  | v => [v]

/-- Is it a value of one cell? May it be stored? -/
def AVal.one : AVal → Bool
  | .agg _ | .tuple _ | .unk => false
  | _ => true
def AVal.storable : AVal → Bool
  | .tuple _ | .unk => false
  | _ => true

/-- The last two of an environment's words: what a temporary holds. -/
abbrev Env := List (Nat × AVal)

def Env.get : Env → Nat → Option AVal
  | [], _ => none
  | (j, v) :: e, k => if j = k then some v else Env.get e k

def Env.restrict (e : Env) : List Nat → Env
  | [] => []
  | k :: ks => match e.get k with
    | some v => (k, v) :: e.restrict ks
    | none => e.restrict ks

inductive Oprd where
  | t (n : Nat)
  | c (v : AVal)
  | g (n : Nat)
  | f (n : Nat)
  deriving Inhabited, Repr

/-- The kinds of cells that are compared. -/
inductive BK where
  | bool | int | str
  deriving DecidableEq, Repr, Inhabited
inductive EK where
  | bool | ptr | slice | func | map | iface
  deriving DecidableEq, Repr, Inhabited
/-- A key of a map: one cell, or a struct's. -/
inductive KK where
  | one (k : BK)
  | many (ks : List BK)
  deriving DecidableEq, Repr, Inhabited

inductive AOp where
  | mov (x : Oprd)
  | pick (c a b : Oprd)
  | alloc (zero : List AVal)
  | box (x : Oprd)
  | build (zero : List AVal) (parts : List (Nat × Nat × Oprd))
  | buildSlice (n size : Nat) (zero : List AVal) (parts : List (Nat × Nat × Oprd))
  | load (n : Option Nat) (a : Oprd)
  | store (n : Nat) (a x : Oprd)
  | nilCheck (x : Oprd)
  | bin (op : BinOp) (x y : Oprd)
  | eq1 (k : EK) (neg : Bool) (x y : Oprd)
  | eqAgg (ks : List BK) (neg : Bool) (x y : Oprd)
  | un (op : UnOp) (x : Oprd)
  | convInt (k : IntKind) (x : Oprd)
  | intStr (x : Oprd)
  | strBytes (x : Oprd)
  | strRunes (x : Oprd)
  | bytesStr (x : Oprd)
  | mkIface (t : TypeId) (x : Oprd)
  | mkFunc (fn : Fn) (first captured : List Oprd)
  | mkMap
  | mkSlice (bytes size : Nat) (zero : List AVal) (len cap : Oprd)
  | sliceStr (x : Oprd) (lo hi : Option Oprd)
  | slice (size : Nat) (x : Oprd) (lo hi mx : Option Oprd)
  | sliceArr (n size : Nat) (x : Oprd) (lo hi mx : Option Oprd)
  | fieldAddr (off : Nat) (x : Oprd)
  | field (off : Nat) (n : Option Nat) (x : Oprd)
  | idxAddr (size : Nat) (x i : Oprd)
  | idxAddrArr (n size : Nat) (x i : Oprd)
  | idxStr (x i : Oprd)
  | idxArr (n size : Nat) (agg : Bool) (x i : Oprd)
  | lookup (kn : KK) (zero : AVal) (ok : Bool) (m k : Oprd)
  | update (kn : KK) (m k v : Oprd)
  | rangeStr (x : Oprd)
  | nextStr (it : Oprd)
  | extract (x : Oprd) (i : Nat)
  | len (k : Nat) (x : Oprd)
  | cap (x : Oprd)
  | const (v : AVal)
  | append (bytes size : Nat) (x y : Oprd)
  | appendZeros (bytes size : Nat) (zero : List AVal) (x n : Oprd)
  | eqI (neg : Bool) (x y : Oprd)
  | fail
  | copy (size : Nat) (d s : Oprd)
  | max (xs : List Oprd)
  | min (xs : List Oprd)
  | call (f : FuncId) (args : List Oprd)
  | callv (f : Oprd) (args : List Oprd)
  | invoke (recv : Oprd) (name : String) (args : List Oprd)
  deriving Inhabited, Repr

structure AOper where
  dst : Option Nat
  op : AOp
  guard : Option (Nat × Bool)
  idx : Nat := 0
  slot : Option Nat := none
  deriving Inhabited, Repr

inductive ACode where
  | skip
  | region (ops : List AOper)
  | draw (ops : List AOper) (unord : List (Nat × Nat)) (fresh : Nat)
  | seq (a b : ACode)
  | cond (c : Oprd) (thn els : ACode)
  | block (id : Nat) (body : ACode)
  | loop (live : List Nat) (body : ACode)
  | rangeFunc (f : Oprd) (params : List Nat) (assign body : ACode)
  | exit (id : Nat)
  | scope (live : List Nat) (body cur : ACode)
  | label (l : Nat)
  | goto (l : Nat)
  | ret
  | fail
  deriving Inhabited, Repr

inductive AResult where
  | tmp (t : Nat)
  | cell (addr : Nat) (n : Option Nat)
  deriving Inhabited, Repr

structure AFunc where
  ntmps : Nat
  results : List AResult
  body : ACode
  deriving Inhabited, Repr

inductive AExit where
  | normal
  | exit (id : Nat)
  | goto (l : Nat)
  | ret
  deriving Inhabited, Repr

inductive LState where
  | ready | busy | done
  deriving Inhabited, Repr, DecidableEq

inductive ABlk where
  | row (len : Nat) (cs : List AVal)
  | map (es : List (AVal × AVal))
  | iter (pos : Nat) (rest : List UInt8)
  | loop (st : LState) (pending : AExit) (env : Env) (params : List Nat) (assign body : ACode)
  | dead
  deriving Inhabited, Repr

/-- The shadow's memory: its blocks, and which of them have been written since the call began. -/
structure St where
  h : List ABlk
  d : List Nat
  deriving Inhabited, Repr

/-! ## Equality -/

mutual
def AVal.beq : AVal → AVal → Bool
  | .bool a, .bool b => a == b
  | .int j a, .int k b => j == k && a == b
  | .str a, .str b => a == b
  | .nilPtr, .nilPtr => true
  | .ptr a b c, .ptr x y z => a == x && b == y && c == z
  | .iptr a, .iptr b => AVal.beqs a b
  | .nilSlice, .nilSlice => true
  | .islice n f a, .islice m g b => n == m && f == g && AVal.beqs a b
  | .mslice a b c d f e u, .mslice v w x y g z r => a == v && b == w && c == x && d == y && f == g && e == z && u == r
  | .nilMap, .nilMap => true
  | .map a, .map b => a == b
  | .func f a b, .func g c d => f == g && AVal.beqs a c && AVal.beqs b d
  | .nilFunc, .nilFunc => true
  | .yield a, .yield b => a == b
  | .iter a, .iter b => a == b
  | .iface t a, .iface u b => t == u && AVal.beq a b
  | .nilIface, .nilIface => true
  | .agg a, .agg b => AVal.beqs a b
  | .tuple a, .tuple b => AVal.beqs a b
  | _, _ => false
def AVal.beqs : List AVal → List AVal → Bool
  | [], [] => true
  | x :: xs, y :: ys => AVal.beq x y && AVal.beqs xs ys
  | _, _ => false
end

/-- Go's '==' at a kind; 'none': not taken. -/
def eqB : BK → AVal → AVal → Option Bool
  | .bool, .bool a, .bool b => some (a == b)
  | .int, .int j a, .int k b => if j = k then some (a == b) else none
  | .str, .str a, .str b => some (a == b)
  | _, _, _ => none

def eqE : EK → AVal → AVal → Option Bool
  | .bool, .bool a, .bool b => some (a == b)
  | .ptr, .nilPtr, .nilPtr => some true
  | .ptr, .nilPtr, .ptr .. => some false
  | .ptr, .nilPtr, .iptr _ => some false
  | .ptr, .ptr .., .nilPtr => some false
  | .ptr, .iptr _, .nilPtr => some false
  | .ptr, .ptr b v o, .ptr b' v' o' => if b = b' ∧ v = v' then some (o == o') else none
  | .slice, .nilSlice, .nilSlice => some true
  | .slice, .nilSlice, .islice .. => some false
  | .slice, .nilSlice, .mslice .. => some false
  | .slice, .islice .., .nilSlice => some false
  | .slice, .mslice .., .nilSlice => some false
  | .func, .nilFunc, .nilFunc => some true
  | .func, .nilFunc, .func .. => some false
  | .func, .func .., .nilFunc => some false
  | .map, .nilMap, .nilMap => some true
  | .map, .nilMap, .map _ => some false
  | .map, .map _, .nilMap => some false
  | .iface, .nilIface, .nilIface => some true
  | .iface, .nilIface, .iface .. => some false
  | .iface, .iface .., .nilIface => some false
  | _, _, _ => none

def eqs : List BK → List AVal → List AVal → Option Bool
  | [], [], [] => some true
  | k :: ks, x :: xs, y :: ys => match eqB k x y with
    | some true => eqs ks xs ys
    | some false => if xs.length = ks.length ∧ ys.length = ks.length then some false else none
    | none => none
  | _, _, _ => none

/-- Keys of maps. -/
def keyEq (kn : KK) (x y : AVal) : Option Bool :=
  match kn with
  | .one k => eqB k x y
  | .many ks => match x, y with
    | .agg xs, .agg ys => eqs ks xs ys
    | _, _ => none

/-! ## Bytes and characters -/

def byteAt (s : List UInt8) (k : Nat) : Nat :=
  match s[k]? with
  | some c => c.toNat
  | none => 0

/-- A character of bytes, and its width. -/
def decode1 : List UInt8 → Nat × Nat
  | [] => (0, 1)
  | a :: s =>
    let b0 := a.toNat
    if b0 < 0x80 then (b0, 1)
    else if b0 / 32 == 6 && byteAt s 0 / 64 == 2 then
      if (b0 % 32) * 64 + byteAt s 0 % 64 ≥ 0x80 then ((b0 % 32) * 64 + byteAt s 0 % 64, 2) else (0xFFFD, 1)
    else if b0 / 16 == 14 && byteAt s 0 / 64 == 2 && byteAt s 1 / 64 == 2 then
      let c := (b0 % 16) * 4096 + (byteAt s 0 % 64) * 64 + byteAt s 1 % 64
      if c ≥ 0x800 && Utf8.valid c then (c, 3) else (0xFFFD, 1)
    else if b0 / 8 == 30 && byteAt s 0 / 64 == 2 && byteAt s 1 / 64 == 2 && byteAt s 2 / 64 == 2 then
      let c := (b0 % 8) * 262144 + (byteAt s 0 % 64) * 4096 + (byteAt s 1 % 64) * 64 + byteAt s 2 % 64
      if c ≥ 0x10000 && Utf8.valid c then (c, 4) else (0xFFFD, 1)
    else (0xFFFD, 1)

def runesOf : Nat → List UInt8 → List Nat
  | 0, _ => []
  | _, [] => []
  | k + 1, s => let (r, w) := decode1 s; r :: runesOf k (s.drop w)

def encode1 (r : Int) : List UInt8 := (Utf8.encode r).data.toList

def bytesOfCells : List AVal → Option (List UInt8)
  | [] => some []
  | .int .u8 n :: cs => match bytesOfCells cs with
    | some s => some (UInt8.ofNat n.toNat :: s)
    | none => none
  | _ :: _ => none

/-! ## Memory -/

def row? (h : List ABlk) (b ver : Nat) : Option (List AVal) :=
  match h[b]? with
  | some (.row n cs) => if n = ver then some cs else none
  | _ => none

/-- The cells of a slice of n elements. -/
def sliceCells (h : List ABlk) (size : Nat) : AVal → Option (List AVal)
  | .nilSlice => some []
  | .islice n _ cs => if cs.length = n * size then some cs else none
  | .mslice b ver off len sz _ _ => match row? h b ver with
    | some cs => if sz = size ∧ off + len * size ≤ ver then some ((cs.drop off).take (len * size)) else none
    | none => none
  | _ => none

def sliceLen : AVal → Option Nat
  | .nilSlice => some 0
  | .islice n _ _ => some n
  | .mslice _ _ _ len _ _ _ => some len
  | .str s => some s.length
  | _ => none

/-- Lengths: of a string (0), a slice (1), a map (2). -/
def lenA (h : List ABlk) : Nat → AVal → Option Nat
  | 0, .str s => some s.length
  | 1, .nilSlice => some 0
  | 1, .islice n _ _ => some n
  | 1, .mslice _ _ _ n _ _ _ => some n
  | 2, .nilMap => some 0
  | 2, .map b => match h[b]? with
    | some (.map es) => some es.length
    | _ => none
  | _, _ => none

def putCells : List AVal → Nat → List AVal → List AVal
  | cs, 0, [] => cs
  | _ :: cs, 0, v :: vs => v :: putCells cs 0 vs
  | [], 0, _ :: _ => []
  | c :: cs, o + 1, vs => c :: putCells cs o vs
  | [], _ + 1, _ => []

def St.setRow (st : St) (b len : Nat) (cs : List AVal) : St := { h := st.h.set b (.row len cs), d := b :: st.d }
def St.new (st : St) (o : ABlk) : St := { st with h := st.h ++ [o] }

def loadA (h : List ABlk) (n : Option Nat) : AVal → Option AVal
  | .ptr b ver off => match row? h b ver with
    | some cs => match n with
      | none => cs[off]?
      | some n => if off + n ≤ ver then some (.agg ((cs.drop off).take n)) else none
    | none => none
  | .iptr cs => match n with
    | none => cs[0]?
    | some n => if n ≤ cs.length then some (.agg (cs.take n)) else none
  | _ => none

def asI : AVal → Option Int
  | .int _ n => some n
  | _ => none

def bound (x : AVal) (y : Nat) : Option Nat :=
  match asI x with
  | some i => if 0 ≤ i ∧ i ≤ y then some i.toNat else none
  | none => none

def optBound (x : Option AVal) (y dflt : Nat) : Option Nat :=
  match x with
  | some v => bound v y
  | none => some dflt

/-- 2^47: the bytes that a row may take. -/
def roomB : Nat := 140737488355328

/-- A new row, behind which nothing is known of the capacity. -/
def newRowA (st : St) (size n : Nat) (cs : List AVal) : AVal × St :=
  (.mslice st.h.length (n * size) 0 n size n false, st.new (.row (n * size) cs))

def grow (st : St) (bytes size : Nat) (x : AVal) (new : List AVal) (n : Nat) : Option (AVal × St) :=
  if n = 0 then
    match x with
    | .nilSlice => some (.nilSlice, st)
    | .islice .. | .mslice .. => some (x, st)
    | _ => none
  else
    match x with
    | .nilSlice => if n * bytes ≤ roomB then some (newRowA st size n new) else none
    | .islice m true cs => if cs.length = m * size ∧ (m + n) * bytes ≤ roomB then some (newRowA st size (m + n) (cs ++ new)) else none
    | .mslice b ver off len sz lb exact =>
      match row? st.h b ver with
      | none => none
      | some cs =>
        if sz = size ∧ (len + n) * bytes ≤ roomB ∧ off + lb * size ≤ ver ∧ len ≤ lb then
          if len + n ≤ lb then some (.mslice b ver off (len + n) size lb exact, st.setRow b ver (putCells cs (off + len * size) new))
          else if exact then some (newRowA st size (len + n) ((cs.drop off).take (len * size) ++ new))
          else if off = 0 ∧ lb * size = ver then
            some (.mslice b ((len + n) * size) 0 (len + n) size (len + n) false, st.setRow b ((len + n) * size) (cs.take (len * size) ++ new))
          else none
        else none
    | _ => none

def intOp (op : BinOp) (k : IntKind) (a b : Int) : Option AVal :=
  match op with
  | .add => some (.int k (k.wrap (a + b)))
  | .sub => some (.int k (k.wrap (a - b)))
  | .mul => some (.int k (k.wrap (a * b)))
  | .quo => if b = 0 then none else some (.int k (k.wrap (a.tdiv b)))
  | .rem => if b = 0 then none else some (.int k (a.tmod b))
  | .and => some (.int k (k.wrap (BitVec.ofInt k.bits a &&& BitVec.ofInt k.bits b).toNat))
  | .or => some (.int k (k.wrap (BitVec.ofInt k.bits a ||| BitVec.ofInt k.bits b).toNat))
  | .xor => some (.int k (k.wrap (BitVec.ofInt k.bits a ^^^ BitVec.ofInt k.bits b).toNat))
  | .andNot => some (.int k (k.wrap (BitVec.ofInt k.bits a &&& ~~~BitVec.ofInt k.bits b).toNat))
  | .eql => some (.bool (a == b))
  | .neq => some (.bool (a != b))
  | .lss => some (.bool (a < b))
  | .leq => some (.bool (a ≤ b))
  | .gtr => some (.bool (a > b))
  | .geq => some (.bool (a ≥ b))
  | _ => none

def shiftOp (op : BinOp) (k : IntKind) (a b : Int) : Option AVal :=
  if b < 0 then none
  else match op with
    | .shl => some (.int k (k.wrap (a * 2 ^ (min b.toNat k.bits))))
    | .shr => some (.int k (a.fdiv (2 ^ (min b.toNat k.bits))))
    | _ => none

def strOp (op : BinOp) (a b : List UInt8) : Option AVal :=
  match op with
  | .add => if a.length + b.length ≤ roomB then some (.str (a ++ b)) else none
  | .eql => some (.bool (a == b))
  | .neq => some (.bool !(a == b))
  | _ => none

def binA (op : BinOp) (x y : AVal) : Option AVal :=
  match x, y with
  | .int k a, .int j b =>
    match op with
    | .shl | .shr => shiftOp op k a b
    | _ => if k = j then intOp op k a b else none
  | .str a, .str b => strOp op a b
  | _, _ => none

def unA (op : UnOp) (x : AVal) : Option AVal :=
  match op, x with
  | .neg, .int k n => some (.int k (k.wrap (0 - n)))
  | .not, .bool b => some (.bool !b)
  | .xor, .int k n => intOp .xor k (if k.signed then -1 else k.max) n
  | _, _ => none

def fillA (cells : List AVal) : List (Nat × Nat × AVal) → Option (List AVal)
  | [] => some cells
  | (off, size, v) :: rest => if v.storable = true ∧ v.cells.length = size ∧ off + size ≤ cells.length then fillA (putCells cells off v.cells) rest else none

def replicateCells (n : Nat) (z : List AVal) : List AVal :=
  match n with
  | 0 => []
  | n + 1 => z ++ replicateCells n z

def maxA : AVal → AVal → Option AVal
  | .int k x, .int j y => if k = j then some (.int k (if y > x then y else x)) else none
  | _, _ => none
def minA : AVal → AVal → Option AVal
  | .int k x, .int j y => if k = j then some (.int k (if y < x then y else x)) else none
  | _, _ => none
def foldA (f : AVal → AVal → Option AVal) (a : AVal) : List AVal → Option AVal
  | [] => some a
  | x :: xs => match f a x with
    | some b => foldA f b xs
    | none => none

def findA (kn : KK) (k : AVal) : List (AVal × AVal) → Option (Option AVal)
  | [] => some none
  | (k', v) :: es => match keyEq kn k k' with
    | some true => some (some v)
    | some false => findA kn k es
    | none => none

/-- Has a key the shape of its kind? -/
def keyFits (kn : KK) (k : AVal) : Bool :=
  match kn with
  | .one _ => true
  | .many ks => match k with
    | .agg as => as.length == ks.length
    | _ => false

/-- Low, high and max of a slice expression; lb: so great the capacity is at least. -/
def boundsA (len lb : Nat) (lo hi mx : Option AVal) : Option (Nat × Nat × Nat) :=
  match optBound mx lb lb with
  | some m => match optBound hi m len with
    | some h => match optBound lo h 0 with
      | some l => some (l, h, m)
      | none => none
    | none => none
  | none => none

def sliceA (size : Nat) (x : AVal) (lo hi mx : Option AVal) : Option AVal :=
  match x with
  | .nilSlice => match boundsA 0 0 lo hi mx with
    | some _ => some .nilSlice
    | none => none
  | .islice n full cs => match boundsA n n lo hi mx with
    | some (l, h, m) => some (.islice (h - l) ((mx.isSome && m == h) || (full && h == n && !mx.isSome)) ((cs.drop (l * size)).take ((h - l) * size)))
    | none => none
  | .mslice b ver off len sz lb exact => if sz = size then match boundsA len lb lo hi mx with
      | some (l, h, m) => some (.mslice b ver (off + l * size) (h - l) size (m - l) (exact || mx.isSome))
      | none => none
    else none
  | _ => none

structure Ctx where
  /-- What a package-level variable's cells read as; none: not known. -/
  glob : Nat → Option (List AVal)
  funcs : FuncId → Option AFunc
  /-- Functions that are taken as a whole. -/
  prim : FuncId → List AVal → St → Option (AVal × St)
  isPrim : FuncId → Bool
  /-- Is a dynamic type one of whole numbers? -/
  intType : TypeId → Bool
  /-- A method of a dynamic type: its function; whether the receiver is loaded through a pointer of so many cells. -/
  meth : TypeId → String → Option (FuncId × Option Nat)
  /-- Are new blocks of a function's result kept as they are? -/
  keep : FuncId → Bool

def evO (C : Ctx) (e : Env) : Oprd → Option AVal
  | .t n => e.get n
  | .c v => some v
  | .g n => match C.glob n with
    | some cs => some (.iptr cs)
    | none => some .unk
  | .f n => some (.func (.func n) [] [])

def evOs (C : Ctx) (e : Env) : List Oprd → Option (List AVal)
  | [] => some []
  | x :: xs => match evO C e x with
    | some v => match evOs C e xs with
      | some vs => some (v :: vs)
      | none => none
    | none => none

def evOo (C : Ctx) (e : Env) : Option Oprd → Option (Option AVal)
  | none => some none
  | some x => match evO C e x with
    | some v => some (some v)
    | none => none

def evParts (C : Ctx) (e : Env) : List (Nat × Nat × Oprd) → Option (List (Nat × Nat × AVal))
  | [] => some []
  | (o, s, x) :: xs => match evO C e x with
    | some v => match evParts C e xs with
      | some vs => some ((o, s, v) :: vs)
      | none => none
    | none => none

/-- An operation that is no call. -/
def stepOp (C : Ctx) (e : Env) (op : AOp) (st : St) : Option (AVal × St) :=
  match op with
  | .mov x => (evO C e x).map (·, st)
  | .const v => some (v, st)
  | .pick c a b => match evO C e c with
    | some (.bool t) => (evO C e (if t then a else b)).map (·, st)
    | _ => none
  | .alloc z => some (.ptr st.h.length z.length 0, st.new (.row z.length z))
  | .box x => match evO C e x with
    | some v => if v.storable = false then none else some (.ptr st.h.length v.cells.length 0, st.new (.row v.cells.length v.cells))
    | none => none
  | .build z ps => match evParts C e ps with
    | some vs => (fillA z vs).map (.agg ·, st)
    | none => none
  | .buildSlice n size z ps => match evParts C e ps with
    | some vs => (fillA (replicateCells n z) vs).map (.islice n true ·, st)
    | none => none
  | .load n a => match evO C e a with
    | some p => (loadA st.h n p).map (·, st)
    | none => none
  | .store n a x => match evO C e a, evO C e x with
    | some (.ptr b ver off), some v => match row? st.h b ver with
      | some cs => if v.storable = true ∧ v.cells.length = n ∧ off + n ≤ ver then some (.tuple [], st.setRow b ver (putCells cs off v.cells)) else none
      | none => none
    | _, _ => none
  | .nilCheck x => match evO C e x with
    | some (.ptr b v o) => some (.ptr b v o, st)
    | some (.iptr cs) => some (.iptr cs, st)
    | some (.func (.func f) a b) => some (.func (.func f) a b, st)
    | _ => none
  | .bin op x y => match evO C e x, evO C e y with
    | some a, some b => (binA op a b).map (·, st)
    | _, _ => none
  | .eq1 k neg x y => match evO C e x, evO C e y with
    | some a, some b => match eqE k a b with
      | some r => some (.bool (neg != r), st)
      | none => none
    | _, _ => none
  | .eqAgg ks neg x y => match evO C e x, evO C e y with
    | some (.agg a), some (.agg b) => match eqs ks a b with
      | some r => some (.bool (neg != r), st)
      | none => none
    | _, _ => none
  | .un op x => match evO C e x with
    | some a => (unA op a).map (·, st)
    | none => none
  | .convInt k x => match evO C e x with
    | some (.int _ n) => some (.int k (k.wrap n), st)
    | _ => none
  | .intStr x => match evO C e x with
    | some (.int _ n) => some (.str (encode1 n), st)
    | _ => none
  | .strBytes x => match evO C e x with
    | some (.str s) => some (newRowA st 1 s.length (s.map fun (b : UInt8) => .int .u8 b.toNat))
    | _ => none
  | .strRunes x => match evO C e x with
    | some (.str s) => let rs := runesOf s.length s; some (newRowA st 1 rs.length (rs.map fun (r : Nat) => .int .i32 r))
    | _ => none
  | .bytesStr x => match evO C e x with
    | some v => match sliceCells st.h 1 v with
      | some cs => (bytesOfCells cs).map (.str ·, st)
      | none => none
    | none => none
  | .mkIface t x => (evO C e x).map (.iface t ·, st)
  | .mkFunc fn a b => match evOs C e a, evOs C e b with
    | some a, some b => some (.func fn a b, st)
    | _, _ => none
  | .mkMap => some (.map st.h.length, st.new (.map []))
  | .mkSlice bytes size z len cap => match evO C e len, evO C e cap with
    | some (.int _ l), some (.int _ c) =>
      if 0 ≤ l ∧ l ≤ c ∧ c ≤ 9223372036854775807 ∧ c.toNat * bytes ≤ roomB then
        some (.mslice st.h.length (c.toNat * size) 0 l.toNat size c.toNat true, st.new (.row (c.toNat * size) (replicateCells c.toNat z)))
      else none
    | _, _ => none
  | .sliceStr x lo hi => match evO C e x, evOo C e lo, evOo C e hi with
    | some (.str s), some lo, some hi => match boundsA s.length s.length lo hi none with
      | some (l, h, _) => some (.str ((s.drop l).take (h - l)), st)
      | none => none
    | _, _, _ => none
  | .slice size x lo hi mx => match evO C e x, evOo C e lo, evOo C e hi, evOo C e mx with
    | some v, some lo, some hi, some mx => if mx.isSome = true ∧ hi.isSome = false then none else (sliceA size v lo hi mx).map (·, st)
    | _, _, _, _ => none
  | .sliceArr n size x lo hi mx => match evO C e x, evOo C e lo, evOo C e hi, evOo C e mx with
    | some (.ptr b ver off), some lo, some hi, some mx => if mx.isSome = true ∧ hi.isSome = false then none else
      match row? st.h b ver with
      | some _ => if off + n * size ≤ ver then match boundsA n n lo hi mx with
          | some (l, h, m) => some (.mslice b ver (off + l * size) (h - l) size (m - l) true, st)
          | none => none
        else none
      | none => none
    | _, _, _, _ => none
  | .fieldAddr o x => match evO C e x with
    | some (.ptr b ver off) => some (.ptr b ver (off + o), st)
    | some (.iptr cs) => some (.iptr (cs.drop o), st)
    | _ => none
  | .field o n x => match evO C e x with
    | some (.agg cs) => match n with
      | none => (cs[o]?).map (·, st)
      | some n => if o + n ≤ cs.length then some (.agg ((cs.drop o).take n), st) else none
    | _ => none
  | .idxAddr size x i => match evO C e x, evO C e i with
    | some v, some (.int _ i) => match v with
      | .islice n _ cs => if 0 ≤ i ∧ i < n then some (.iptr (cs.drop (i.toNat * size)), st) else none
      | .mslice b ver off len sz _ _ => if sz = size ∧ 0 ≤ i ∧ i < len then some (.ptr b ver (off + i.toNat * size), st) else none
      | _ => none
    | _, _ => none
  | .idxAddrArr n size x i => match evO C e x, evO C e i with
    | some (.ptr b ver off), some (.int _ i) => if 0 ≤ i ∧ i < n then some (.ptr b ver (off + i.toNat * size), st) else none
    | some (.iptr cs), some (.int _ i) => if 0 ≤ i ∧ i < n then some (.iptr (cs.drop (i.toNat * size)), st) else none
    | _, _ => none
  | .idxStr x i => match evO C e x, evO C e i with
    | some (.str s), some (.int _ i) => if 0 ≤ i then (s[i.toNat]?).map fun b => (.int .u8 b.toNat, st) else none
    | _, _ => none
  | .idxArr n size agg x i => match evO C e x, evO C e i with
    | some (.agg cs), some (.int _ i) =>
      if 0 ≤ i ∧ i < n then
        if agg then some (.agg ((cs.drop (i.toNat * size)).take size), st) else (cs[i.toNat * size]?).map (·, st)
      else none
    | _, _ => none
  | .lookup kn z ok m k => match evO C e m, evO C e k with
    | some m, some k =>
      let es := match m with
        | .nilMap => some []
        | .map b => match st.h[b]? with
          | some (.map es) => some es
          | _ => none
        | _ => none
      match es with
      | some es => if keyFits kn k then match findA kn k es with
          | some r => some (if ok then .tuple [r.getD z, .bool r.isSome] else r.getD z, st)
          | none => none
        else none
      | none => none
    | _, _ => none
  | .update kn m k v => match evO C e m, evO C e k, evO C e v with
    | some (.map b), some k, some v => match st.h[b]? with
      | some (.map es) => if keyFits kn k then match findA kn k es with
          | some none => some (.tuple [], { h := st.h.set b (.map (es ++ [(k, v)])), d := b :: st.d })
          | _ => none
        else none
      | _ => none
    | _, _, _ => none
  | .rangeStr x => match evO C e x with
    | some (.str s) => some (.iter st.h.length, st.new (.iter 0 s))
    | _ => none
  | .nextStr x => match evO C e x with
    | some (.iter b) => match st.h[b]? with
      | some (.iter p s) =>
        match s with
        | [] => some (.tuple [.bool false], st)
        | _ :: _ => let (r, w) := decode1 s
          some (.tuple [.bool true, .int .i64 p, .int .i32 r], { h := st.h.set b (.iter (p + w) (s.drop w)), d := b :: st.d })
      | _ => none
    | _ => none
  | .extract x i => match evO C e x with
    | some (.tuple vs) => (vs[i]?).map (·, st)
    | _ => none
  | .len k x => match evO C e x with
    | some v => (lenA st.h k v).map fun n => (.int .i64 n, st)
    | none => none
  | .cap x => match evO C e x with
    | some .nilSlice => some (.int .i64 0, st)
    | some (.islice n true _) => some (.int .i64 n, st)
    | some (.mslice _ _ _ _ _ c true) => some (.int .i64 c, st)
    | _ => none
  | .append bytes size x y => match evO C e x, evO C e y with
    | some a, some (.str s) => if size ≠ 1 then none else grow st bytes size a (s.map fun (b : UInt8) => .int .u8 b.toNat) s.length
    | some a, some b => match sliceCells st.h size b, sliceLen b with
      | some cs, some n => grow st bytes size a cs n
      | _, _ => none
    | _, _ => none
  | .appendZeros bytes size z x n => match evO C e x, evO C e n with
    | some a, some (.int _ n) => if 0 ≤ n ∧ n.toNat * bytes ≤ roomB then grow st bytes size a (replicateCells n.toNat z) n.toNat else none
    | _, _ => none
  | .eqI neg x y => match evO C e x, evO C e y with
    | some (.iface t a), some (.iface u b) =>
      if t = u then
        if C.intType t then match a, b with
          | .int j m, .int k n => if j = k then some (.bool (neg != (m == n)), st) else none
          | _, _ => none
        else none
      else some (.bool neg, st)
    | some (.iface ..), some .nilIface | some .nilIface, some (.iface ..) => some (.bool neg, st)
    | _, _ => none
  | .fail => none
  | .copy size d s => match evO C e d, evO C e s with
    | some dv, some sv =>
      let src := match sv with
        | .str s => if size ≠ 1 then none else some (s.map fun (b : UInt8) => AVal.int .u8 b.toNat, s.length)
        | v => match sliceCells st.h size v, sliceLen v with
          | some cs, some n => some (cs, n)
          | _, _ => none
      match src, lenA st.h 1 dv with
      | some (cs, n), some m =>
        let k := Nat.min n m
        if k = 0 then some (.int .i64 0, st)
        else match dv with
          | .mslice b ver off _ sz _ _ => match row? st.h b ver with
            | some row => if sz = size ∧ off + k * size ≤ ver then some (.int .i64 k, st.setRow b ver (putCells row off (cs.take (k * size)))) else none
            | none => none
          | _ => none
      | _, _ => none
    | _, _ => none
  | .max xs => match evOs C e xs with
    | some (v :: vs) => (foldA maxA v vs).map (·, st)
    | _ => none
  | .min xs => match evOs C e xs with
    | some (v :: vs) => (foldA minA v vs).map (·, st)
    | _ => none
  | .call .. | .callv .. | .invoke .. => none

/-! ## What a function hands back -/

mutual
def AVal.inSight (n : Nat) : AVal → Bool
  | .ptr b _ _ => Nat.blt b n
  | .mslice b _ _ _ _ _ _ => Nat.blt b n
  | .map b => Nat.blt b n
  | .yield b => Nat.blt b n
  | .iter b => Nat.blt b n
  | .iptr cs => AVal.scopeds n cs
  | .islice _ _ cs => AVal.scopeds n cs
  | .agg cs => AVal.scopeds n cs
  | .tuple cs => AVal.scopeds n cs
  | .func _ a b => AVal.scopeds n a && AVal.scopeds n b
  | .iface _ v => AVal.inSight n v
  | _ => true
def AVal.scopeds (n : Nat) : List AVal → Bool
  | [] => true
  | v :: vs => AVal.inSight n v && AVal.scopeds n vs
end

def mapO (f : AVal → Option AVal) : List AVal → Option (List AVal)
  | [] => some []
  | v :: vs => match f v with
    | some v => match mapO f vs with
      | some vs => some (v :: vs)
      | none => none
    | none => none

/-- A value whose new rows have become values; fuel: how deep rows lie in rows. -/
def freeze (n : Nat) (h : List ABlk) : Nat → AVal → Option AVal
  | 0, v => if v.inSight n then some v else none
  | k + 1, v => if v.inSight n then some v else match v with
    | .mslice b ver off len size lb ex => match sliceCells h size (.mslice b ver off len size lb ex) with
      | some cs => match mapO (freeze n h k) cs with
        | some cs => some (.islice len false cs)
        | none => none
      | none => none
    | .agg cs => match mapO (freeze n h k) cs with
      | some cs => some (.agg cs)
      | none => none
    | .tuple cs => match mapO (freeze n h k) cs with
      | some cs => some (.tuple cs)
      | none => none
    | .islice m f cs => match mapO (freeze n h k) cs with
      | some cs => some (.islice m f cs)
      | none => none
    | _ => none

def blkScoped (n : Nat) : Option ABlk → Bool
  | some (.row _ cs) => AVal.scopeds n cs
  | some (.map es) => es.all fun (k, v) => k.inSight n && v.inSight n
  | some .dead => true
  | some (.iter _ _) => true
  | some (.loop ..) => true
  | none => true

end Go.Shadow

namespace Go.Shadow
open Go

structure Ev where
  code : ACode → Env → St → Option (AExit × Env × St)
  call : FuncId → List AVal → St → Option (AVal × St)
  yield : Nat → List AVal → St → Option (AVal × St)

def Ev.none : Ev := { code := fun _ _ _ => .none, call := fun _ _ _ => .none, yield := fun _ _ _ => .none }

def callMeth (C : Ctx) (E : Ev) (recv : AVal) (name : String) (args : List AVal) (st : St) : Option (AVal × St) :=
  match recv with
  | .iface t v => match C.meth t name with
    | some (f, .none) => E.call f (v :: args) st
    | some (f, some n) => match loadA st.h (some n) v with
      | some x => E.call f (x :: args) st
      | .none => .none
    | .none => .none
  | _ => .none

def callVal (C : Ctx) (E : Ev) (v : AVal) (args : List AVal) (st : St) : Option (AVal × St) :=
  match v with
  | .func (.func f) first captured => E.call f (first ++ args ++ captured) st
  | .func (.method name) first _ => match first ++ args with
    | recv :: rest => callMeth C E recv name rest st
    | [] => .none
  | .yield b => E.yield b args st
  | _ => .none

def stepAny (C : Ctx) (E : Ev) (e : Env) (op : AOp) (st : St) : Option (AVal × St) :=
  match op with
  | .call f args => match evOs C e args with
    | some vs => E.call f vs st
    | .none => .none
  | .callv f args => match evO C e f, evOs C e args with
    | some v, some vs => callVal C E v vs st
    | _, _ => .none
  | .invoke r name args => match evO C e r, evOs C e args with
    | some v, some vs => callMeth C E v name vs st
    | _, _ => .none
  | op => stepOp C e op st

def Env.put (e : Env) (d : Option Nat) (v : AVal) : Env :=
  match d with
  | some t => (t, v) :: e
  | .none => e

def wantedA (e : Env) : Option (Nat × Bool) → Option Bool
  | .none => some true
  | some (t, b) => match e.get t with
    | some (.bool c) => some (b == c)
    | some (.tuple []) => some false
    | _ => .none

def evalOps (C : Ctx) (E : Ev) : List AOper → Env → St → Option (Env × St)
  | [], e, st => some (e, st)
  | o :: os, e, st =>
    match wantedA e o.guard with
    | some true => match stepAny C E e o.op st with
      | some (v, st') => evalOps C E os (e.put o.dst v) st'
      | .none => .none
    | some false => evalOps C E os (e.put o.dst (.tuple [])) st
    | .none => .none

/-- What an operation is, where orders are open: it reads nothing; it reads; it lays a variable; it may write. -/
inductive Kind where
  | pure | reads | fresh | writes
  deriving DecidableEq

def AOp.kind : AOp → Kind
  | .load .. | .bytesStr _ | .lookup .. | .len .. | .sliceArr .. => .reads
  | .alloc _ | .box _ | .strBytes _ | .strRunes _ => .fresh
  | .store .. | .mkMap | .mkSlice .. | .update .. | .rangeStr _ | .nextStr _ | .append .. | .appendZeros .. | .copy .. | .call .. | .callv .. | .invoke .. => .writes
  | _ => .pure

def St.same (a b : St) : Bool := Nat.beq a.h.length b.h.length && Nat.beq a.d.length b.d.length

def isYield : Option AVal → Bool
  | some (.yield _) => true
  | _ => false

def AOp.yields (C : Ctx) (e : Env) : AOp → Bool
  | .callv f _ => isYield (evO C e f)
  | _ => false

/-- A variable laid at its reserved place. -/
def stepFresh (C : Ctx) (e : Env) (b : Nat) (op : AOp) (st : St) : Option (AVal × St) :=
  match op with
  | .alloc z => some (.ptr b z.length 0, { st with h := st.h.set b (.row z.length z) })
  | .box x => match evO C e x with
    | some v => if v.storable = false then .none else some (.ptr b v.cells.length 0, { st with h := st.h.set b (.row v.cells.length v.cells) })
    | .none => .none
  | .strBytes x => match evO C e x with
    | some (.str s) => some (.mslice b s.length 0 s.length 1 s.length false, { st with h := st.h.set b (.row s.length (s.map fun (b : UInt8) => .int .u8 b.toNat)) })
    | _ => .none
  | .strRunes x => match evO C e x with
    | some (.str s) => let rs := runesOf s.length s; some (.mslice b rs.length 0 rs.length 1 rs.length false, { st with h := st.h.set b (.row rs.length (rs.map fun (r : Nat) => .int .i32 r)) })
    | _ => .none
  | _ => .none

structure Look where
  i : Nat
  op : AOp
  env : Env
  val : AVal

/-- Does what was read stay as it is behind each thing written whose order is open? -/
def lookOk (C : Ctx) (unord : List (Nat × Nat)) (h h' : St) (j : Nat) : List Look → Bool
  | [] => true
  | l :: ls =>
    (if unord.contains (l.i, j) then
      (match stepOp C l.env l.op h with | some (v, _) => v.beq l.val | .none => false) &&
      (match stepOp C l.env l.op h' with | some (v, _) => v.beq l.val | .none => false)
    else true) && lookOk C unord h h' j ls

def allOk (C : Ctx) (unord : List (Nat × Nat)) (ls : List Look) : List (Nat × St × St) → Bool
  | [] => true
  | (j, h, h') :: ws => lookOk C unord h h' j ls && allOk C unord ls ws

def unwritten (unord : List (Nat × Nat)) (i : Nat) : List Nat → Bool
  | [] => true
  | j :: js => !(unord.contains (i, j)) && unwritten unord i js

/-- A region whose order is open, in one order; then what was read is looked at again. 'cs': what may write, 'fs': what laid a variable. -/
def evalDraw (C : Ctx) (E : Ev) (unord : List (Nat × Nat)) (base : Nat) (ls : List Look) (ws : List (Nat × St × St)) (cs fs : List Nat) : List AOper → Env → St → Option (Env × St)
  | [], e, st => if allOk C unord ls ws then some (e, st) else .none
  | o :: os, e, st =>
    match wantedA e o.guard with
    | some true =>
      match o.op.kind with
      | .fresh => match o.slot with
        | some s => match stepFresh C e (base + s) o.op st with
          | some (v, st') => evalDraw C E unord base ls ((o.idx, st, st') :: ws) cs (o.idx :: fs) os (e.put o.dst v) st'
          | .none => .none
        | .none => .none
      | k => match stepAny C E e o.op st with
        | some (v, st') =>
          match k with
          | .pure => evalDraw C E unord base ls ws cs fs os (e.put o.dst v) st'
          | .reads => evalDraw C E unord base ({ i := o.idx, op := o.op, env := e, val := v } :: ls) ws cs fs os (e.put o.dst v) st'
          | _ =>
            if unwritten unord o.idx cs && unwritten unord o.idx fs then
              evalDraw C E unord base ls (if St.same st st' && !o.op.yields C e then ws else (o.idx, st, st') :: ws) (o.idx :: cs) fs os (e.put o.dst v) st'
            else .none
        | .none => .none
    | some false => evalDraw C E unord base ls ws cs fs os (e.put o.dst (.tuple [])) st
    | .none => .none

def findLabelA : ACode → Nat → Option ACode
  | .seq a b, l => match findLabelA a l with
    | some rest => some (.seq rest b)
    | .none => findLabelA b l
  | .label l', l => if l' = l then some .skip else .none
  | _, _ => .none

def resultsA (e : Env) (h : List ABlk) : List AResult → Option (List AVal)
  | [] => some []
  | .tmp t :: rs => match e.get t, resultsA e h rs with
    | some v, some vs => some (v :: vs)
    | _, _ => .none
  | .cell a n :: rs => match e.get a with
    | some p => match loadA h n p, resultsA e h rs with
      | some v, some vs => some (v :: vs)
      | _, _ => .none
    | .none => .none

def oneOf : List AVal → AVal
  | [v] => v
  | vs => .tuple vs

def setParams (e : Env) : List Nat → List AVal → Option Env
  | [], [] => some e
  | p :: ps, v :: vs => match setParams e ps vs with
    | some e' => some ((p, v) :: e')
    | .none => .none
  | _, _ => .none

/-- A function with a body, that is no method's. -/
def enters (C : Ctx) : AVal → Bool
  | .func (.func f) _ _ => !C.isPrim f
  | _ => false

def evalCode (C : Ctx) (E : Ev) : ACode → Env → St → Option (AExit × Env × St)
  | .skip, e, st => some (.normal, e, st)
  | .label _, e, st => some (.normal, e, st)
  | .exit id, e, st => some (.exit id, e, st)
  | .goto l, e, st => some (.goto l, e, st)
  | .ret, e, st => some (.ret, e, st)
  | .fail, _, _ => .none
  | .region ops, e, st => match evalOps C E ops e st with
    | some (e', st') => some (.normal, e', st')
    | .none => .none
  | .draw ops un fresh, e, st => match evalDraw C E un st.h.length [] [] [] [] ops e { st with h := st.h ++ List.replicate fresh .dead } with
    | some (e', st') => some (.normal, e', st')
    | .none => .none
  | .seq a b, e, st => match evalCode C E a e st with
    | some (.normal, e', st') => evalCode C E b e' st'
    | r => r
  | .cond c a b, e, st => match evO C e c with
    | some (.bool t) => match t with
      | true => evalCode C E a e st
      | false => evalCode C E b e st
    | _ => .none
  | .block id a, e, st => match evalCode C E a e st with
    | some (.exit j, e', st') => if j = id then some (.normal, e', st') else some (.exit j, e', st')
    | r => r
  | .loop live a, e, st => match evalCode C E a (e.restrict live) st with
    | some (.normal, e', st') => E.code (.loop live a) e' st'
    | r => r
  | .scope live body cur, e, st => match evalCode C E cur e st with
    | some (.goto l, e', st') => match findLabelA body l with
      | some rest => E.code (.scope live body rest) (e'.restrict live) st'
      | .none => some (.goto l, e', st')
    | r => r
  | .rangeFunc f ps assign body, e, st => match evO C e f with
    | some v =>
      let b := st.h.length
      if enters C v then
        match callVal C E v [.yield b] { st with h := st.h ++ [.loop .ready .normal e ps assign body] } with
        | some (_, st') => match st'.h[b]? with
          | some (.loop s pend _ _ _ _) => if s = .busy then .none else some (pend, e, { st' with h := st'.h.set b .dead })
          | _ => .none
        | .none => .none
      else .none
    | .none => .none

def dirtyOk (n : Nat) (h : List ABlk) : List Nat → Bool
  | [] => true
  | b :: bs => (if Nat.blt b n then blkScoped n h[b]? else true) && dirtyOk n h bs

/-- What is handed back: if nothing that stays speaks of new blocks, these are forgotten. -/
def finish (keep : Bool) (n : Nat) (d0 : List Nat) (v : AVal) (st : St) : AVal × St :=
  if keep then (v, { h := st.h, d := st.d ++ d0 }) else
  match freeze n st.h 8 v with
  | some v' => if dirtyOk n st.h st.d then (v', { h := st.h.take n, d := st.d.filter (Nat.blt · n) ++ d0 }) else (v, { h := st.h, d := st.d ++ d0 })
  | .none => (v, { h := st.h, d := st.d ++ d0 })

def evalCall (C : Ctx) (E : Ev) (f : FuncId) (args : List AVal) (st : St) : Option (AVal × St) :=
  if C.isPrim f then C.prim f args st else
  match C.funcs f with
  | .none => .none
  | some fn =>
    match evalCode C E fn.body (args.zipIdx.map fun (v, i) => (i, v)) { h := st.h, d := [] } with
    | some (x, e, st') => match x with
      | .normal | .ret => match resultsA e st'.h fn.results with
        | some vs => some (finish (C.keep f) st.h.length st.d (oneOf vs) st')
        | .none => .none
      | _ => .none
    | .none => .none

def evalYield (C : Ctx) (E : Ev) (b : Nat) (args : List AVal) (st : St) : Option (AVal × St) :=
  match st.h[b]? with
  | some (.loop .ready _ env ps assign body) =>
    match setParams env ps args with
    | some e0 =>
      match evalCode C E assign e0 { st with h := st.h } with
      | some (.normal, e1, st1) =>
        match st1.h[b]? with
        | some (.loop .ready p env' ps' a' b') =>
          match evalCode C E body e1 { st1 with h := st1.h.set b (.loop .busy p env' ps' a' b') } with
          | some (x, _, st2) => match st2.h[b]? with
            | some (.loop .busy _ env' ps' a' b') =>
              match x with
              | .normal => some (.bool true, { h := st2.h.set b (.loop .ready .normal env' ps' a' b'), d := b :: st2.d })
              | x => some (.bool false, { h := st2.h.set b (.loop .done x env' ps' a' b'), d := b :: st2.d })
            | _ => .none
          | .none => .none
        | _ => .none
      | _ => .none
    | .none => .none
  | _ => .none

def Ev.next (C : Ctx) (E : Ev) : Ev := { code := evalCode C E, call := evalCall C E, yield := evalYield C E }

def ev (C : Ctx) : Nat → Ev
  | 0 => Ev.none
  | n + 1 => (ev C n).next C

end Go.Shadow

namespace Go.Shadow
open Go

variable {C : Ctx} {e : Env} {st st' : St} {v : AVal}

/-! ### Operations that look at no memory -/

theorem stepOp_pure {op : AOp} (hk : op.kind = .pure) (h : stepOp C e op st = some (v, st')) : st' = st ∧ ∀ st2, stepOp C e op st2 = some (v, st2) := by
  cases op <;> first | (simp [AOp.kind] at hk; done) | skip
  all_goals
    simp only [stepOp] at h ⊢
    (repeat' split at h) <;> first
      | (cases h; done)
      | (cases h; exact ⟨rfl, fun st2 => by simp_all⟩)
      | (simp only [Option.map_eq_some_iff] at h; obtain ⟨u, hu, h⟩ := h; cases h; exact ⟨rfl, fun st2 => by simp_all⟩)

theorem stepOp_reads {op : AOp} (hk : op.kind = .reads) (h : stepOp C e op st = some (v, st')) : st' = st := by
  cases op <;> first | (simp [AOp.kind] at hk; done) | skip
  all_goals
    simp only [stepOp] at h
    (repeat' split at h) <;> first
      | (cases h; done)
      | (cases h; rfl)
      | (simp only [Option.map_eq_some_iff] at h; obtain ⟨u, hu, h⟩ := h; cases h; rfl)

end Go.Shadow

namespace Go.Shadow
open Go

variable {P : Program} {C : Ctx} {e e' : Env} {st st' st'' : St} {v : AVal} {E : Ev}

/-! ### What the machine writes down of what it has written -/

structure Dirty (st st' : St) : Prop where
  mk ::
  len : st.h.length ≤ st'.h.length
  d : ∃ new, st'.d = new ++ st.d ∧ ∀ (b : Nat), b < st.h.length → b ∉ new → st'.h[b]? = st.h[b]?
  loops : ∀ (b : Nat) s p env ps as bd, st.h[b]? = some (ABlk.loop s p env ps as bd) → ∃ s' p', st'.h[b]? = some (ABlk.loop s' p' env ps as bd)
  back : ∀ (b : Nat) s p env ps as bd, b < st.h.length → st'.h[b]? = some (ABlk.loop s p env ps as bd) → ∃ s' p', st.h[b]? = some (ABlk.loop s' p' env ps as bd)

theorem Dirty.refl (st : St) : Dirty st st := ⟨Nat.le_refl _, ⟨[], rfl, fun _ _ _ => rfl⟩, fun b s p env ps as bd h => ⟨s, p, h⟩, fun b s p env ps as bd _ h => ⟨s, p, h⟩⟩
theorem Dirty.trans (h : Dirty st st') (h' : Dirty st' st'') : Dirty st st'' := by
  obtain ⟨n1, e1, q1⟩ := h.d
  obtain ⟨n2, e2, q2⟩ := h'.d
  refine ⟨Nat.le_trans h.len h'.len, ⟨n2 ++ n1, by rw [e2, e1, List.append_assoc], fun b hb hn => ?_⟩, fun b s p env ps as bd hl => ?_, fun b s p env ps as bd hb hl => ?_⟩
  · simp only [List.mem_append, not_or] at hn
    rw [q2 b (Nat.lt_of_lt_of_le hb h.len) hn.1, q1 b hb hn.2]
  · obtain ⟨s1, p1, h1⟩ := h.loops b s p env ps as bd hl
    exact h'.loops b s1 p1 env ps as bd h1
  · obtain ⟨s1, p1, h1⟩ := h'.back b s p env ps as bd (Nat.lt_of_lt_of_le hb h.len) hl
    exact h.back b s1 p1 env ps as bd hb h1

theorem Dirty.new (st : St) (o : ABlk) : Dirty st (st.new o) := by
  refine ⟨by simp [St.new], ⟨[], rfl, fun b hb _ => by simp [St.new, List.getElem?_append_left hb]⟩, fun b s p env ps as bd h => ⟨s, p, ?_⟩, fun b s p env ps as bd hb h => ⟨s, p, ?_⟩⟩
  · have hb := (List.getElem?_eq_some_iff.1 h).1
    simp only [St.new]
    rw [List.getElem?_append_left hb]
    exact h
  · simp only [St.new] at h
    rwa [List.getElem?_append_left hb] at h

theorem Dirty.set (st : St) (b : Nat) (o o' : ABlk) (hb : st.h[b]? = some o) (ho : ∀ s p env ps as bd, o ≠ ABlk.loop s p env ps as bd) (ho' : ∀ s p env ps as bd, o' ≠ ABlk.loop s p env ps as bd) : Dirty st { h := st.h.set b o', d := b :: st.d } := by
  have hlt := (List.getElem?_eq_some_iff.1 hb).1
  refine ⟨by simp, ⟨[b], rfl, fun c _ hn => ?_⟩, fun c s p env ps as bd h => ?_, fun c s p env ps as bd hc h => ?_⟩
  · simp at hn
    rw [List.getElem?_set_ne (by omega)]
  · by_cases hc : b = c
    · subst hc
      rw [hb] at h; cases h
      exact absurd rfl (ho s p env ps as bd)
    · exact ⟨s, p, by rw [List.getElem?_set_ne hc]; exact h⟩
  · by_cases hbc : b = c
    · subst hbc
      simp only [List.getElem?_set_self hlt, Option.some.injEq] at h
      exact absurd h (ho' s p env ps as bd)
    · simp only [List.getElem?_set_ne hbc] at h
      exact ⟨s, p, h⟩

theorem Dirty.setRow {b ver n : Nat} {cs cs' : List AVal} (h : row? st.h b ver = some cs) : Dirty st (st.setRow b n cs') := by
  unfold row? at h
  split at h
  · rename_i m cs0 hb
    exact Dirty.set st b _ _ hb (fun s p env ps as bd => by simp) (fun s p env ps as bd => by simp)
  · cases h

theorem grow_dirty {bytes size n : Nat} {x : AVal} {new : List AVal} (h : grow st bytes size x new n = some (v, st')) : Dirty st st' := by
  unfold grow at h
  split at h
  · split at h <;> first | (cases h; done) | (cases h; exact .refl _)
  · split at h
    · split at h
      · cases h; exact .new _ _
      · cases h
    · split at h
      · cases h; exact .new _ _
      · cases h
    · split at h
      · cases h
      · rename_i hr
        split at h
        · split at h
          · cases h; exact .setRow hr
          · split at h
            · cases h; exact .new _ _
            · split at h
              · cases h; exact .setRow hr
              · cases h
        · cases h
    · cases h

theorem stepOp_dirty {op : AOp} (h : stepOp C e op st = some (v, st')) : Dirty st st' := by
  cases op <;> simp only [stepOp] at h
  case alloc => cases h; exact .new _ _
  case mkMap => cases h; exact .new _ _
  case fail => cases h
  case const => cases h; exact .refl _
  case call => cases h
  case callv => cases h
  case invoke => cases h
  all_goals
    (repeat' split at h) <;> first
      | (cases h; done)
      | (cases h; exact .refl _)
      | (simp only [Option.map_eq_some_iff] at h; obtain ⟨_, _, h⟩ := h; cases h; exact .refl _)
      | (cases h; exact .new _ _)
      | exact grow_dirty h
      | (cases h; exact .setRow (by assumption))
      | (cases h; exact .set _ _ _ _ (by assumption) (fun s p env ps as bd => by simp) (fun s p env ps as bd => by simp))
      | (simp only [Option.map_eq_some_iff, newRowA, Option.some.injEq] at h; cases h; exact .new _ _)
      | skip

end Go.Shadow

namespace Go.Shadow
open Go

variable {P : Program} {C : Ctx} {e e' : Env} {st st' st'' : St} {v : AVal} {E : Ev} {n : Nat}

/-- The same, of the first n blocks. -/
structure DirtyB (n : Nat) (st st' : St) : Prop where
  len : st.h.length ≤ st'.h.length
  d : ∃ new, st'.d = new ++ st.d ∧ ∀ (b : Nat), b < n → b ∉ new → st'.h[b]? = st.h[b]?
  loops : ∀ (b : Nat) s p env ps as bd, b < n → st.h[b]? = some (ABlk.loop s p env ps as bd) → ∃ s' p', st'.h[b]? = some (ABlk.loop s' p' env ps as bd)
  back : ∀ (b : Nat) s p env ps as bd, b < n → st'.h[b]? = some (ABlk.loop s p env ps as bd) → ∃ s' p', st.h[b]? = some (ABlk.loop s' p' env ps as bd)

theorem Dirty.toB (h : Dirty st st') (hn : n ≤ st.h.length) : DirtyB n st st' := by
  obtain ⟨new, e1, q1⟩ := h.d
  exact ⟨h.len, ⟨new, e1, fun b hb hnn => q1 b (Nat.lt_of_lt_of_le hb hn) hnn⟩, fun b s p env ps as bd _ hl => h.loops b s p env ps as bd hl, fun b s p env ps as bd hb hl => h.back b s p env ps as bd (Nat.lt_of_lt_of_le hb hn) hl⟩
theorem DirtyB.refl (n : Nat) (st : St) : DirtyB n st st := ⟨Nat.le_refl _, ⟨[], rfl, fun _ _ _ => rfl⟩, fun b s p env ps as bd _ h => ⟨s, p, h⟩, fun b s p env ps as bd _ h => ⟨s, p, h⟩⟩
theorem DirtyB.trans (h : DirtyB n st st') (h' : DirtyB n st' st'') : DirtyB n st st'' := by
  obtain ⟨n1, e1, q1⟩ := h.d
  obtain ⟨n2, e2, q2⟩ := h'.d
  refine ⟨Nat.le_trans h.len h'.len, ⟨n2 ++ n1, by rw [e2, e1, List.append_assoc], fun b hb hn => ?_⟩, fun b s p env ps as bd hb hl => ?_, fun b s p env ps as bd hb hl => ?_⟩
  · simp only [List.mem_append, not_or] at hn
    rw [q2 b hb hn.1, q1 b hb hn.2]
  · obtain ⟨s1, p1, h1⟩ := h.loops b s p env ps as bd hb hl
    exact h'.loops b s1 p1 env ps as bd hb h1
  · obtain ⟨s1, p1, h1⟩ := h'.back b s p env ps as bd hb hl
    exact h.back b s1 p1 env ps as bd hb h1
theorem DirtyB.put {b : Nat} (o : ABlk) (hb : n ≤ b) : DirtyB n st { st with h := st.h.set b o } := by
  refine ⟨by simp, ⟨[], rfl, fun c hc _ => by simp only; rw [List.getElem?_set_ne (by omega)]⟩, fun c s p env ps as bd hc h => ⟨s, p, by simp only; rw [List.getElem?_set_ne (by omega)]; exact h⟩, fun c s p env ps as bd hc h => ⟨s, p, by simp only at h; rwa [List.getElem?_set_ne (by omega)] at h⟩⟩
theorem DirtyB.append (st : St) (l : List ABlk) : DirtyB st.h.length st { st with h := st.h ++ l } := by
  refine ⟨by simp, ⟨[], rfl, fun c hc _ => by simp only; rw [List.getElem?_append_left hc]⟩, fun c s p env ps as bd hc h => ⟨s, p, by simp only; rw [List.getElem?_append_left hc]; exact h⟩, fun c s p env ps as bd hc h => ⟨s, p, by simp only at h; rwa [List.getElem?_append_left hc] at h⟩⟩
theorem DirtyB.full (h : DirtyB st.h.length st st') : Dirty st st' :=
  ⟨h.len, h.d, fun b s p env ps as bd hl => h.loops b s p env ps as bd (List.getElem?_eq_some_iff.1 hl).1 hl, fun b s p env ps as bd hb hl => h.back b s p env ps as bd hb hl⟩

structure EvDirty (E : Ev) : Prop where
  call : ∀ f args st v st', E.call f args st = some (v, st') → Dirty st st'
  yield : ∀ b args st v st', E.yield b args st = some (v, st') → Dirty st st'
  code : ∀ c e st x e' st', E.code c e st = some (x, e', st') → Dirty st st'

theorem callMeth_dirty (hE : EvDirty E) {recv : AVal} {name : String} {args : List AVal} (h : callMeth C E recv name args st = some (v, st')) : Dirty st st' := by
  unfold callMeth at h
  (repeat' split at h) <;> first | (cases h; done) | exact hE.call _ _ _ _ _ h

theorem callVal_dirty (hE : EvDirty E) {x : AVal} {args : List AVal} (h : callVal C E x args st = some (v, st')) : Dirty st st' := by
  unfold callVal at h
  (repeat' split at h) <;> first | (cases h; done) | exact hE.call _ _ _ _ _ h | exact callMeth_dirty hE h | exact hE.yield _ _ _ _ _ h

theorem stepAny_dirty (hE : EvDirty E) {op : AOp} (h : stepAny C E e op st = some (v, st')) : Dirty st st' := by
  unfold stepAny at h
  split at h
  · split at h
    · exact hE.call _ _ _ _ _ h
    · cases h
  · split at h
    · exact callVal_dirty hE h
    · cases h
  · split at h
    · exact callMeth_dirty hE h
    · cases h
  · exact stepOp_dirty h

theorem evalOps_dirty (hE : EvDirty E) : ∀ (l : List AOper) (e : Env) (st : St) (e' : Env) (st' : St), evalOps C E l e st = some (e', st') → Dirty st st'
  | [], e, st, e', st', h => by simp [evalOps] at h; rw [h.2]; exact .refl _
  | o :: os, e, st, e', st', h => by
    simp only [evalOps] at h
    split at h
    · split at h
      · rename_i hs
        exact (stepAny_dirty hE hs).trans (evalOps_dirty hE os _ _ _ _ h)
      · cases h
    · exact evalOps_dirty hE os _ _ _ _ h
    · cases h

theorem stepFresh_dirty {b : Nat} {op : AOp} (hb : n ≤ b) (h : stepFresh C e b op st = some (v, st')) : DirtyB n st st' := by
  unfold stepFresh at h
  (repeat' split at h) <;> first
    | (cases h; done)
    | (cases h; exact .put _ hb)
    | (simp only [Option.some.injEq] at h; cases h; exact .put _ hb)

theorem evalDraw_dirty (hE : EvDirty E) (un : List (Nat × Nat)) (base : Nat) (hn : n ≤ base) : ∀ (l : List AOper) (ls : List Look) (ws : List (Nat × St × St)) (cs fs : List Nat) (e : Env) (st : St) (e' : Env) (st' : St), n ≤ st.h.length →
    evalDraw C E un base ls ws cs fs l e st = some (e', st') → DirtyB n st st'
  | [], ls, ws, cs, fs, e, st, e', st', hl, h => by
    simp only [evalDraw] at h
    split at h
    · cases h; exact .refl _ _
    · cases h
  | o :: os, ls, ws, cs, fs, e, st, e', st', hl, h => by
    simp only [evalDraw] at h
    split at h
    · split at h
      · split at h
        · split at h
          · rename_i hs
            have h1 := stepFresh_dirty (n := n) (by omega) hs
            exact h1.trans (evalDraw_dirty hE un base hn os _ _ _ _ _ _ _ _ (Nat.le_trans hl h1.len) h)
          · cases h
        · cases h
      · split at h
        · rename_i hs
          have h1 := (stepAny_dirty hE hs).toB hl
          have hl' := Nat.le_trans hl h1.len
          split at h
          · exact h1.trans (evalDraw_dirty hE un base hn os _ _ _ _ _ _ _ _ hl' h)
          · exact h1.trans (evalDraw_dirty hE un base hn os _ _ _ _ _ _ _ _ hl' h)
          · split at h
            · exact h1.trans (evalDraw_dirty hE un base hn os _ _ _ _ _ _ _ _ hl' h)
            · cases h
        · cases h
    · exact evalDraw_dirty hE un base hn os _ _ _ _ _ _ _ _ hl h
    · cases h

theorem evalCode_dirty (hE : EvDirty E) : ∀ (c : ACode) (e : Env) (st : St) (x : AExit) (e' : Env) (st' : St), evalCode C E c e st = some (x, e', st') → Dirty st st' := by
  intro c
  induction c with
  | skip => intro e st x e' st' h; simp [evalCode] at h; rw [h.2.2]; exact .refl _
  | label l => intro e st x e' st' h; simp [evalCode] at h; rw [h.2.2]; exact .refl _
  | exit id => intro e st x e' st' h; simp [evalCode] at h; rw [h.2.2]; exact .refl _
  | goto l => intro e st x e' st' h; simp [evalCode] at h; rw [h.2.2]; exact .refl _
  | ret => intro e st x e' st' h; simp [evalCode] at h; rw [h.2.2]; exact .refl _
  | fail => intro e st x e' st' h; simp [evalCode] at h
  | region ops =>
    intro e st x e' st' h
    simp only [evalCode] at h
    split at h
    · rename_i hs; cases h; exact evalOps_dirty hE _ _ _ _ _ hs
    · cases h
  | draw ops un k =>
    intro e st x e' st' h
    simp only [evalCode] at h
    split at h
    · rename_i hs
      cases h
      refine DirtyB.full ((DirtyB.append st _).trans (evalDraw_dirty hE un st.h.length (Nat.le_refl _) _ _ _ _ _ _ _ _ _ (by simp) hs))
    · cases h
  | seq a b iha ihb =>
    intro e st x e' st' h
    simp only [evalCode] at h
    split at h
    · rename_i hs
      exact (iha _ _ _ _ _ hs).trans (ihb _ _ _ _ _ h)
    · exact iha _ _ _ _ _ h
  | cond c a b iha ihb =>
    intro e st x e' st' h
    simp only [evalCode] at h
    split at h
    · split at h
      · exact iha _ _ _ _ _ h
      · exact ihb _ _ _ _ _ h
    · cases h
  | block id a iha =>
    intro e st x e' st' h
    simp only [evalCode] at h
    split at h
    · rename_i hs
      split at h <;> (cases h; exact iha _ _ _ _ _ hs)
    · exact iha _ _ _ _ _ h
  | loop live a iha =>
    intro e st x e' st' h
    simp only [evalCode] at h
    split at h
    · rename_i hs
      exact (iha _ _ _ _ _ hs).trans (hE.code _ _ _ _ _ _ h)
    · exact iha _ _ _ _ _ h
  | scope live body cur _ ihc =>
    intro e st x e' st' h
    simp only [evalCode] at h
    split at h
    · rename_i hs
      split at h
      · exact (ihc _ _ _ _ _ hs).trans (hE.code _ _ _ _ _ _ h)
      · cases h; exact ihc _ _ _ _ _ hs
    · exact ihc _ _ _ _ _ h
  | rangeFunc f ps a b iha ihb =>
    intro e st x e' st' h
    simp only [evalCode] at h
    split at h
    · split at h
      case isFalse => cases h
      split at h
      · rename_i hs
        split at h
        · split at h
          · cases h
          cases h
          have h1 := (callVal_dirty hE hs).toB (n := st.h.length) (by simp)
          exact DirtyB.full (((DirtyB.append st _).trans h1).trans (.put _ (Nat.le_refl _)))
        · cases h
      · cases h
    · cases h

theorem finish_dirty {keep : Bool} {d0 : List Nat} {h0 : List ABlk} {v' : AVal} (h : Dirty { h := h0, d := [] } st) (hf : finish keep h0.length d0 v st = (v', st')) : Dirty { h := h0, d := d0 } st' := by
  obtain ⟨new, e1, q1⟩ := h.d
  simp only [List.append_nil] at e1
  have plain : Dirty { h := h0, d := d0 } { h := st.h, d := st.d ++ d0 } :=
    ⟨h.len, ⟨new, by simp [e1], q1⟩, h.loops, h.back⟩
  unfold finish at hf
  split at hf
  · cases hf; exact plain
  · split at hf
    · split at hf
      · cases hf
        have hl := h.len
        simp only at hl
        refine ⟨by simp only [List.length_take]; omega, ⟨st.d.filter (Nat.blt · h0.length), rfl, fun b hb hn => ?_⟩, fun b s p env ps as bd hl => ?_, fun b s p env ps as bd hb hl => ?_⟩
        · simp only at hb ⊢
          rw [List.getElem?_take, if_pos hb]
          refine q1 b hb fun hbn => hn ?_
          rw [List.mem_filter]
          exact ⟨by rw [e1]; exact hbn, by simpa [Nat.blt_eq] using hb⟩
        · have hb := (List.getElem?_eq_some_iff.1 hl).1
          simp only at hb hl ⊢
          rw [List.getElem?_take, if_pos hb]
          exact h.loops b s p env ps as bd hl
        · simp only at hb hl ⊢
          rw [List.getElem?_take, if_pos hb] at hl
          exact h.back b s p env ps as bd hb hl
      · cases hf; exact plain
    · cases hf; exact plain

theorem evalCall_dirty (hE : EvDirty E) (hP : ∀ f args st v st', C.prim f args st = some (v, st') → Dirty st st') {f : FuncId} {args : List AVal} (h : evalCall C E f args st = some (v, st')) : Dirty st st' := by
  unfold evalCall at h
  split at h
  · exact hP _ _ _ _ _ h
  · split at h
    · cases h
    · split at h
      · rename_i hs
        have h1 := evalCode_dirty hE _ _ _ _ _ _ hs
        split at h
        · split at h
          · simp only [Option.some.injEq] at h
            exact finish_dirty h1 h
          · cases h
        · split at h
          · simp only [Option.some.injEq] at h
            exact finish_dirty h1 h
          · cases h
        · cases h
      · cases h

theorem evalYield_dirty (hE : EvDirty E) {b : Nat} {args : List AVal} (h : evalYield C E b args st = some (v, st')) : Dirty st st' := by
  unfold evalYield at h
  split at h
  · rename_i pend env ps as bd hb
    split at h
    · split at h
      · rename_i st1 hs1
        have h1 : Dirty st st1 := evalCode_dirty hE _ _ _ _ _ _ hs1
        split at h
        · rename_i p env' ps' a' b' hb1
          split at h
          · rename_i x st2 hs2
            have h2 := evalCode_dirty hE _ _ _ _ _ _ hs2
            split at h
            · rename_i p2 env2 ps2 a2 b2 hb2
              have hbl : b < st1.h.length := (List.getElem?_eq_some_iff.1 hb1).1
              have hb2l : b < st2.h.length := (List.getElem?_eq_some_iff.1 hb2).1
              have key : ∀ (s : LState) (p : AExit), Dirty st { h := st2.h.set b (.loop s p env2 ps2 a2 b2), d := b :: st2.d } := by
                intro s p
                obtain ⟨n1, e1, q1⟩ := h1.d
                obtain ⟨n2, e2, q2⟩ := h2.d
                have hl2 := h2.len
                simp only [List.length_set] at hl2
                have hl1 := h1.len
                refine ⟨by simp only [List.length_set]; omega, ⟨b :: (n2 ++ n1), by simp [e2, e1], fun c hc hn => ?_⟩, fun c s0 p0 env0 ps0 as0 bd0 hl => ?_, fun c s0 p0 env0 ps0 as0 bd0 hc hl => ?_⟩
                · simp only [List.mem_cons, List.mem_append, not_or] at hn
                  simp only
                  rw [List.getElem?_set_ne (by omega), q2 c (by simp only [List.length_set]; omega) hn.2.1]
                  simp only
                  rw [List.getElem?_set_ne (by omega), q1 c hc hn.2.2]
                · obtain ⟨s1, p1, g1⟩ := h1.loops c s0 p0 env0 ps0 as0 bd0 hl
                  by_cases hcb : b = c
                  · subst hcb
                    rw [hb1] at g1; cases g1
                    obtain ⟨s2, p2', g2⟩ := h2.loops b .busy _ _ _ _ _ (by simp only; rw [List.getElem?_set_self hbl])
                    rw [hb2] at g2; cases g2
                    exact ⟨s, p, by simp [hb2l]⟩
                  · obtain ⟨s2, p2', g2⟩ := h2.loops c s1 p1 env0 ps0 as0 bd0 (by simp only; rw [List.getElem?_set_ne hcb]; exact g1)
                    exact ⟨s2, p2', by simp only; rw [List.getElem?_set_ne hcb]; exact g2⟩
                · simp only at hl
                  by_cases hcb : b = c
                  · subst hcb
                    rw [List.getElem?_set_self hb2l] at hl; cases hl
                    obtain ⟨s2, p2', g2⟩ := h2.loops b .busy _ _ _ _ _ (by simp only; rw [List.getElem?_set_self hbl])
                    rw [hb2] at g2; cases g2
                    exact h1.back b _ _ _ _ _ _ hc hb1
                  · rw [List.getElem?_set_ne hcb] at hl
                    obtain ⟨s2, p2', g2⟩ := h2.back c s0 p0 env0 ps0 as0 bd0 (by simp only [List.length_set]; omega) hl
                    simp only at g2
                    rw [List.getElem?_set_ne hcb] at g2
                    exact h1.back c s2 p2' env0 ps0 as0 bd0 hc g2
              split at h <;> (cases h; exact key _ _)
            · cases h
          · cases h
        · cases h
      · cases h
    · cases h
  · cases h

theorem ev_dirty (hP : ∀ f args st v st', C.prim f args st = some (v, st') → Dirty st st') : ∀ n, EvDirty (ev C n)
  | 0 => ⟨fun f args st v st' h => by simp [ev, Ev.none] at h, fun f args st v st' h => by simp [ev, Ev.none] at h, fun c e st x e' st' h => by simp [ev, Ev.none] at h⟩
  | n + 1 => ⟨fun f args st v st' h => evalCall_dirty (ev_dirty hP n) hP h, fun b args st v st' h => evalYield_dirty (ev_dirty hP n) h, fun c e st x e' st' h => evalCode_dirty (ev_dirty hP n) c e st x e' st' h⟩

end Go.Shadow

namespace Go.Shadow
open Go

/-! ## From the model's code -/

mutual
def ofValue : Value → Option AVal
  | .bool b => some (.bool b)
  | .int k n => some (.int k n)
  | .string s => some (.str s.data.toList)
  | .pointer .none => some .nilPtr
  | .slice .none 0 0 => some .nilSlice
  | .map .none => some .nilMap
  | .nilFunc => some .nilFunc
  | .func (.func f) ⟨[]⟩ ⟨[]⟩ => some (.func (.func f) [] [])
  | .nilIface => some .nilIface
  | .iface t v => (ofValue v).map (.iface t)
  | .agg ⟨cs⟩ => match ofValues cs with
    | some as => if as.all AVal.one then some (.agg as) else .none
    | .none => .none
  | .tuple ⟨cs⟩ => (ofValues cs).map .tuple
  | _ => .none
def ofValues : List Value → Option (List AVal)
  | [] => some []
  | v :: vs => match ofValue v with
    | some a => match ofValues vs with
      | some as => some (a :: as)
      | .none => .none
    | .none => .none
end

def cOpr : Operand → Option Oprd
  | .tmp t => some (.t t)
  | .const v => (ofValue v).map .c
  | .global g => some (.g g)
  | .func f => some (.f f)

def cOprs : List Operand → Option (List Oprd)
  | [] => some []
  | x :: xs => match cOpr x, cOprs xs with
    | some y, some ys => some (y :: ys)
    | _, _ => .none

def cOpt : Option Operand → Option (Option Oprd)
  | .none => some .none
  | some x => (cOpr x).map some

def zeroCellsOf (P : Program) (t : TypeId) : Option (List AVal) :=
  match P.info? t with
  | some i => match i.zero with
    | some v => match ofValues v.cells.toList with
      | some as => if as.all AVal.one then some as else .none
      | .none => .none
    | .none => .none
  | .none => .none

def zeroOf (P : Program) (t : TypeId) : Option AVal :=
  match P.info? t with
  | some i => match i.zero with
    | some v => ofValue v
    | .none => .none
  | .none => .none

/-- An aggregate's cells; none: one cell that is none. -/
def aggOf (P : Program) (t : TypeId) : Option (Option Nat) :=
  match P.underlying t, P.info? t with
  | some (.struct _), some i | some (.array ..), some i => some (some i.size)
  | some _, some _ => some .none
  | _, _ => .none

def cParts (place : Nat → Option (Nat × Nat)) : List (Nat × Operand) → Option (List (Nat × Nat × Oprd))
  | [] => some []
  | (i, x) :: ps => match place i, cOpr x, cParts place ps with
    | some (o, s), some y, some ys => some ((o, s, y) :: ys)
    | _, _, _ => .none

def flatFs (P : Program) (f : TypeId → Option (List BK)) : List Field → Nat → Option (List BK)
  | [], _ => some []
  | x :: xs, o => if x.name = "_" then .none else if x.offset = o then match f x.type with
      | some ks => if P.cellsOf x.type = ks.length then match flatFs P f xs (o + ks.length) with
          | some js => some (ks ++ js)
          | .none => .none
        else .none
      | .none => .none
    else .none

/-- The cells of a type whose '==' is asked cell by cell; structs lie without holes. -/
def flatN (P : Program) : Nat → TypeId → Option (List BK)
  | 0, _ => .none
  | d + 1, t => match P.underlying t with
    | some .bool => some [.bool]
    | some (.int _) => some [.int]
    | some .string => some [.str]
    | some (.struct fs) => if P.stoodInHeld t then .none else flatFs P (flatN P d) fs.toList 0
    | _ => .none

def cEq (P : Program) (neg : Bool) (t : TypeId) (x y : Operand) : Option AOp :=
  match cOpr x, cOpr y with
  | some a, some b =>
    match P.underlying t with
    | some (.int _) => some (.bin (if neg then .neq else .eql) a b)
    | some .string => some (.bin (if neg then .neq else .eql) a b)
    | some .bool => some (.eq1 .bool neg a b)
    | some (.slice _) => some (.eq1 .slice neg a b)
    | some (.func ..) => some (.eq1 .func neg a b)
    | some (.map ..) => some (.eq1 .map neg a b)
    | some (.pointer e) => if P.cellsOf e = 0 then .none else some (.eq1 .ptr neg a b)
    | some (.interface _) => match x, y with
      | .const .nilIface, _ | _, .const .nilIface => some (.eq1 .iface neg a b)
      | _, _ => some (.eqI neg a b)
    | some (.struct _) => if P.eqGuardType P.depth t then .none else match flatN P 20 t with
      | some ks => some (.eqAgg ks neg a b)
      | .none => .none
    | _ => .none
  | _, _ => .none

def cBin (P : Program) (op : BinOp) (t : TypeId) (x y : Operand) : Option AOp :=
  match op with
  | .eql => cEq P false t x y
  | .neq => cEq P true t x y
  | _ => match cOpr x, cOpr y with
    | some a, some b => some (.bin op a b)
    | _, _ => .none

/-- How keys of a map are compared. -/
def keyKind (P : Program) (t : TypeId) : Option KK :=
  match P.underlying t with
  | some (.int _) => some (.one .int)
  | some .string => some (.one .str)
  | some (.struct _) => match flatN P 20 t with
    | some ks => some (.many ks)
    | .none => .none
  | _ => .none

def elemOfSlice (P : Program) (t : TypeId) : Option (TypeInfo × TypeId) :=
  match P.underlying t with
  | some (.slice e) => (P.info? e).map (·, e)
  | _ => .none

def cConv (P : Program) (s d : TypeId) (x : Oprd) : Option AOp :=
  match P.underlying s, P.underlying d with
  | some (.int _), some (.int k) => some (.convInt k x)
  | some (.int _), some .string => some (.intStr x)
  | some .string, some .string => some (.sliceStr x .none .none)
  | some .string, some (.slice e) => match P.underlying e with
    | some (.int .u8) => some (.strBytes x)
    | some (.int .i32) => some (.strRunes x)
    | _ => .none
  | some (.slice e), some .string => match P.underlying e with
    | some (.int .u8) => some (.bytesStr x)
    | _ => .none
  | _, _ => .none

def cCall (P : Program) (c : Call) : Option AOp :=
  match cOprs c.args.toList with
  | .none => .none
  | some args =>
    match c.callee with
    | .value (.func f) => some (.call f args)
    | .value x => (cOpr x).map (.callv · args)
    | .invoke r name => (cOpr r).map (.invoke · name args)
    | .builtin b =>
      match b, args with
      | .len, [x] => match (c.argTypes[0]?).bind P.underlying with
        | some .string => some (.len 0 x)
        | some (.slice _) => some (.len 1 x)
        | some (.map ..) => some (.len 2 x)
        | some (.array n _) => some (.const (.int .i64 n))
        | some (.pointer arr) => match P.underlying arr with
          | some (.array n _) => some (.const (.int .i64 n))
          | _ => .none
        | _ => .none
      | .cap, [x] => match (c.argTypes[0]?).bind P.underlying with
        | some (.slice _) => some (.cap x)
        | some (.array n _) => some (.const (.int .i64 n))
        | _ => .none
      | .append, [x, y] => match (c.argTypes[0]?).bind (elemOfSlice P) with
        | some (i, e) => match zeroCellsOf P e with
          | some z => if z.length = i.size ∧ 0 < i.size ∧ 0 < i.bytes then match (c.argTypes[1]?).bind P.underlying with
              | some (.slice _) => some (.append i.bytes i.size x y)
              | some .string => if i.size = 1 then some (.append i.bytes i.size x y) else .none
              | some (.int _) => some (.appendZeros i.bytes i.size z x y)
              | _ => .none
            else .none
          | .none => .none
        | .none => .none
      | .copy, [x, y] => match (c.argTypes[0]?).bind (elemOfSlice P) with
        | some (i, _) => if 0 < i.size then some (.copy i.size x y) else .none
        | .none => .none
      | .max, xs => some (.max xs)
      | .min, xs => some (.min xs)
      | .panic, _ => some .fail
      | .unsafeSliceData, _ => some .fail
      | .unsafeString, _ => some .fail
      | _, _ => .none

def cOp (P : Program) (o : Oper) : Option AOp :=
  match o.op with
  | .move x | .assign x => (cOpr x).map .mov
  | .pick c a b => match cOpr c, cOpr a, cOpr b with
    | some c, some a, some b => some (.pick c a b)
    | _, _, _ => .none
  | .alloc t => (zeroCellsOf P t).map .alloc
  | .box _ x => (cOpr x).map .box
  | .build t ps => match zeroCellsOf P t, P.underlying t with
    | some z, some (.struct fs) => if fs.toList.all (fun f => (P.info? f.type).isSome) then (cParts (fun i => (fs[i]?).bind fun f => (P.info? f.type).map fun j => (f.offset, j.size)) ps.toList).map (.build z) else .none
    | some z, some (.array _ e) => match P.info? e with
      | some j => (cParts (fun i => some (i * j.size, j.size)) ps.toList).map (.build z)
      | .none => .none
    | _, _ => .none
  | .buildSlice t n ps => match elemOfSlice P t with
    | some (j, e) => match zeroCellsOf P e with
      | some z => if n * j.size ≤ 16777216 ∧ z.length = j.size ∧ 0 < j.size then (cParts (fun i => some (i * j.size, j.size)) ps.toList).map (.buildSlice n j.size z) else .none
      | .none => .none
    | .none => .none
  | .load t a => match aggOf P t, cOpr a with
    | some n, some a => some (.load n a)
    | _, _ => .none
  | .store t a x => match P.info? t, cOpr a, cOpr x with
    | some i, some a, some x => some (.store i.size a x)
    | _, _, _ => .none
  | .nilCheck x => (cOpr x).map .nilCheck
  | .binOp op t x y _ => cBin P op t x y
  | .unOp op _ x => (cOpr x).map (.un op)
  | .convert s d x => (cOpr x).bind (cConv P s d)
  | .makeInterface t x => match P.underlying t with
    | some (.interface _) => .none
    | some _ => (cOpr x).map (.mkIface t)
    | .none => .none
  | .makeFunc fn a b => match cOprs a.toList, cOprs b.toList with
    | some a, some b => some (.mkFunc fn a b)
    | _, _ => .none
  | .makeMap _ .none => some .mkMap
  | .makeMap t (some (.const (.int _ _))) => match P.underlying t with
    | some (.map ..) => some .mkMap
    | _ => .none
  | .makeSlice t l c => match elemOfSlice P t with
    | some (j, e) => match zeroCellsOf P e, cOpr l, cOpr c with
      | some z, some l, some c => if z.length = j.size ∧ 0 < j.size ∧ 0 < j.bytes then some (.mkSlice j.bytes j.size z l c) else .none
      | _, _, _ => .none
    | .none => .none
  | .slice t x lo hi mx => match cOpr x, cOpt lo, cOpt hi, cOpt mx with
    | some x, some lo, some hi, some mx => match P.underlying t with
      | some .string => match mx with
        | .none => some (.sliceStr x lo hi)
        | some _ => .none
      | some (.slice e) => (P.info? e).map fun i => .slice i.size x lo hi mx
      | some (.array n e) => (P.info? e).map fun i => .sliceArr n i.size x lo hi mx
      | _ => .none
    | _, _, _, _ => .none
  | .fieldAddr s x f => match P.underlying s, cOpr x with
    | some (.struct fs), some x => (fs[f]?).bind fun f => (P.info? f.type).bind fun i => if i.size = 0 then .none else some (.fieldAddr f.offset x)
    | _, _ => .none
  | .field s x f => match P.underlying s, cOpr x with
    | some (.struct fs), some x => (fs[f]?).bind fun f => (aggOf P f.type).map fun n => .field f.offset n x
    | _, _ => .none
  | .indexAddr t x i => match P.underlying t, cOpr x, cOpr i with
    | some (.slice e), some x, some i => (P.info? e).map fun j => .idxAddr j.size x i
    | some (.array n e), some x, some i => (P.info? e).bind fun j => if n ≤ 1 then .none else some (.idxAddrArr n j.size x i)
    | _, _, _ => .none
  | .index t x i => match P.underlying t, cOpr x, cOpr i with
    | some .string, some x, some i => some (.idxStr x i)
    | some (.array n e), some x, some i => match P.info? e, aggOf P e with
      | some j, some a => some (.idxArr n j.size a.isSome x i)
      | _, _ => .none
    | _, _, _ => .none
  | .lookup t m k ok => match P.underlying t, cOpr m, cOpr k with
    | some (.map key e), some m, some k => match zeroOf P e with
      | some z => (keyKind P key).map fun kn => .lookup kn z ok m k
      | .none => .none
    | _, _, _ => .none
  | .mapUpdate t m k v | .insert t m k v => match P.underlying t, cOpr m, cOpr k, cOpr v with
    | some (.map key _), some m, some k, some v => (keyKind P key).map fun kn => .update kn m k v
    | _, _, _, _ => .none
  | .range t x => match P.underlying t, cOpr x with
    | some .string, some x => some (.rangeStr x)
    | _, _ => .none
  | .next it true => (cOpr it).map .nextStr
  | .extract x i => (cOpr x).map (.extract · i)
  | .call c => cCall P c
  | .panic _ => some .fail
  | _ => .none

def cGuard (ops : Array Oper) : Option (Nat × Bool) → Option (Option (Nat × Bool))
  | .none => some .none
  | some (j, b) => match (ops[j]?).bind (·.dst) with
    | some t => some (some (t, b))
    | .none => .none

def cOper (P : Program) (ops : Array Oper) (o : Oper) (i : Nat) : Option AOper :=
  match cOp P o, cGuard ops o.guard with
  | some op, some g => some { dst := o.dst, op, guard := g, idx := i }
  | _, _ => .none

def cOpers (P : Program) (ops : Array Oper) : List Oper → Nat → Option (List AOper)
  | [], _ => some []
  | o :: os, i => match cOper P ops o i, cOpers P ops os (i + 1) with
    | some a, some as => some (a :: as)
    | _, _ => .none

/-- The temporaries that an operation looks at or writes. -/
def Oprd.tmps : Oprd → List Nat
  | .t n => [n]
  | _ => []
def AOp.oprds : AOp → List Oprd
  | .mov x | .box x | .load _ x | .nilCheck x | .un _ x | .convInt _ x | .intStr x | .strBytes x | .strRunes x | .bytesStr x | .mkIface _ x | .fieldAddr _ x | .field _ _ x
  | .rangeStr x | .nextStr x | .extract x _ | .len _ x | .cap x => [x]
  | .pick a b c => [a, b, c]
  | .alloc _ | .mkMap | .const _ | .fail => []
  | .build _ ps | .buildSlice _ _ _ ps => ps.map (·.2.2)
  | .store _ a b | .bin _ a b | .mkSlice _ _ _ a b | .idxAddr _ a b | .idxAddrArr _ _ a b | .idxStr a b | .idxArr _ _ _ a b | .lookup _ _ _ a b | .append _ _ a b | .appendZeros _ _ _ a b | .eq1 _ _ a b | .eqAgg _ _ a b | .eqI _ a b | .copy _ a b => [a, b]
  | .mkFunc _ a b => a ++ b
  | .sliceStr x a b => x :: (a.toList ++ b.toList)
  | .slice _ x a b c | .sliceArr _ _ x a b c => x :: (a.toList ++ b.toList ++ c.toList)
  | .update _ a b c => [a, b, c]
  | .max xs | .min xs | .call _ xs => xs
  | .callv x xs | .invoke x _ xs => x :: xs
def AOper.uses (o : AOper) : List Nat := (o.op.oprds.flatMap Oprd.tmps) ++ (o.guard.toList.map (·.1))

/-- One order: what lays a variable goes just ahead of its first user. -/
def lateFresh (l : List AOper) : List AOper :=
  l.foldr (init := []) fun o acc => match o.op.kind, o.dst with
    | .fresh, some t =>
      let rec ins : List AOper → List AOper
        | [] => [o]
        | x :: xs => if x.uses.contains t then o :: x :: xs else x :: ins xs
      ins acc
    | _, _ => o :: acc

def giveSlots : List AOper → Nat → List AOper × Nat
  | [], n => ([], n)
  | o :: os, n => match o.op.kind with
    | .fresh => let (l, m) := giveSlots os (n + 1); ({ o with slot := some n } :: l, m)
    | _ => let (l, m) := giveSlots os n; (o :: l, m)

def unordOf (ops : Array Oper) (l : List AOper) : List (Nat × Nat) :=
  let b := Region.before ops
  let loud := l.filter fun o => o.op.kind != .pure
  loud.flatMap fun o => (loud.filter fun p => o.idx != p.idx && !(b.getD o.idx 0).testBit p.idx && !(b.getD p.idx 0).testBit o.idx).map fun p => (o.idx, p.idx)

def upUses : List AOper → List Nat → List Nat
  | [], _ => []
  | o :: os, defs => (o.uses.filter fun t => !defs.contains t) ++ upUses os (o.dst.toList ++ defs)

/-- The temporaries that are looked at in another region than that in which they are written. -/
def ACode.cross : ACode → List Nat
  | .region ops => upUses ops []
  | .draw ops _ _ => upUses ops []
  | .seq a b => a.cross ++ b.cross
  | .cond c a b => c.tmps ++ a.cross ++ b.cross
  | .block _ a | .loop _ a => a.cross
  | .scope _ a _ => a.cross
  | .rangeFunc f _ a b => f.tmps ++ a.cross ++ b.cross
  | _ => []

def ACode.setLive (l : List Nat) : ACode → ACode
  | .seq a b => .seq (a.setLive l) (b.setLive l)
  | .cond c a b => .cond c (a.setLive l) (b.setLive l)
  | .block i a => .block i (a.setLive l)
  | .loop _ a => .loop l (a.setLive l)
  | .scope _ a b => .scope l (a.setLive l) (b.setLive l)
  | .rangeFunc f ps a b => .rangeFunc f ps (a.setLive l) (b.setLive l)
  | c => c

def cCode (P : Program) : Code → Option ACode
  | .skip => some .skip
  | .region _ ops draw => match cOpers P ops ops.toList 0 with
    | .none => .none
    | some l => if draw then
        let (l, n) := giveSlots (lateFresh l) 0
        some (.draw l (unordOf ops l) n)
      else some (.region l)
  | .seq a b => match cCode P a, cCode P b with
    | some a, some b => some (.seq a b)
    | _, _ => .none
  | .cond c a b => match cOpr c, cCode P a, cCode P b with
    | some c, some a, some b => some (.cond c a b)
    | _, _, _ => .none
  | .block id a => (cCode P a).map (.block id)
  | .loop a => (cCode P a).map (.loop [])
  | .rangeFunc f ps a b => match cOpr f, cCode P a, cCode P b with
    | some f, some a, some b => some (.rangeFunc f ps.toList a b)
    | _, _, _ => .none
  | .exit id => some (.exit id)
  | .scope a => (cCode P a).map fun a => .scope [] a a
  | .label l => some (.label l)
  | .goto l => some (.goto l)
  | .ret => some .ret
  | .refuse _ => some .fail

def cResult (P : Program) : ResultVar → Option AResult
  | .tmp t => some (.tmp t)
  | .cell a t => (aggOf P t).map (.cell a)

def cResults (P : Program) : List ResultVar → Option (List AResult)
  | [] => some []
  | r :: rs => match cResult P r, cResults P rs with
    | some r, some rs => some (r :: rs)
    | _, _ => .none

def AResult.at_ : AResult → Nat
  | .tmp t => t
  | .cell a _ => a

def cFunc (P : Program) (fn : Func) : Option AFunc :=
  match fn.body with
  | .none => .none
  | some b => match cCode P b, cResults P fn.results.toList with
    | some c, some rs => some { ntmps := fn.ntmps, results := rs, body := c.setLive ((c.cross ++ rs.map (·.at_)).eraseDups) }
    | _, _ => .none

end Go.Shadow

namespace Go.Shadow
open Go

/-! ## How the shadow's values stand for the model's -/

/-- A block of the model's that a row stands for, and how many cells it has. -/
structure Place where
  cb : Nat
  size : Nat

/-- Where the shadow's blocks lie (by their lengths), which cells are never written again, how many blocks there are. -/
structure Rel where
  pl : Nat → Nat → Option Place
  im : Nat → Nat → Option Value
  n : Nat

inductive V (G : Rel) : Value → AVal → Prop
  | bool (b : Bool) : V G (.bool b) (.bool b)
  | int (k : IntKind) (n : Int) : V G (.int k n) (.int k n)
  | str (s : ByteArray) : V G (.string s) (.str s.data.toList)
  | nilPtr : V G (.pointer none) .nilPtr
  | ptr (b ver off : Nat) (p : Place) : b < G.n → G.pl b ver = some p → V G (.pointer (some ⟨p.cb, off, none⟩)) (.ptr b ver off)
  | iptr (ad : Addr) (cells : List AVal) (f : Nat → Value) :
      (∀ j c, cells[j]? = some c → ad.spot = none ∧ G.im ad.block (ad.off + j) = some (f j) ∧ (f j).oneCell' = true) → (∀ j c, cells[j]? = some c → V G (f j) c) →
      V G (.pointer (some ad)) (.iptr cells)
  | nilSlice : V G (.slice none 0 0) .nilSlice
  | islice (ad : Addr) (m cap : Nat) (full : Bool) (cells : List AVal) (f : Nat → Value) :
      m ≤ cap → (full = true → cap = m) →
      (∀ j c, cells[j]? = some c → ad.spot = none ∧ G.im ad.block (ad.off + j) = some (f j) ∧ (f j).oneCell' = true) → (∀ j c, cells[j]? = some c → V G (f j) c) →
      V G (.slice (some ad) m cap) (.islice m full cells)
  | mslice (b ver off len size lb : Nat) (exact : Bool) (p : Place) (ad : Addr) (cap : Nat) :
      b < G.n → G.pl b ver = some p → ad.block = p.cb → ad.spot = none → (cap = 0 ∨ ad.off = off) → lb ≤ cap → len ≤ cap → (exact = true → cap = lb) →
      off + cap * size ≤ p.size → V G (.slice (some ad) len cap) (.mslice b ver off len size lb exact)
  | nilMap : V G (.map none) .nilMap
  | map (b : Nat) (p : Place) : b < G.n → G.pl b 0 = some p → V G (.map (some p.cb)) (.map b)
  | func (fn : Fn) (A B : Array Value) (as bs : List AVal) : A.size = as.length → B.size = bs.length →
      (∀ (j : Nat) v a, A[j]? = some v → as[j]? = some a → V G v a) → (∀ (j : Nat) v a, B[j]? = some v → bs[j]? = some a → V G v a) →
      V G (.func fn A B) (.func fn as bs)
  | nilFunc : V G .nilFunc .nilFunc
  | yield (b : Nat) (p : Place) : b < G.n → G.pl b 0 = some p → V G (.func (.yield p.cb) #[] #[]) (.yield b)
  | iter (b : Nat) (p : Place) : b < G.n → G.pl b 0 = some p → V G (.pointer (some ⟨p.cb, 0, none⟩)) (.iter b)
  | iface (t : TypeId) (v : Value) (a : AVal) : V G v a → V G (.iface t v) (.iface t a)
  | nilIface : V G .nilIface .nilIface
  | agg (A : Array Value) (as : List AVal) : (∀ v ∈ A.toList, v.oneCell' = true) → A.size = as.length → (∀ (j : Nat) v a, A[j]? = some v → as[j]? = some a → V G v a) → V G (.agg A) (.agg as)
  | tuple (A : Array Value) (as : List AVal) : A.size = as.length → (∀ (j : Nat) v a, A[j]? = some v → as[j]? = some a → V G v a) → V G (.tuple A) (.tuple as)
  | unk (v : Value) : V G v .unk

/-- Lists of values, one by one. -/
def Vs (G : Rel) (vs : List Value) (as : List AVal) : Prop := vs.length = as.length ∧ ∀ (j : Nat) v a, vs[j]? = some v → as[j]? = some a → V G v a

/-- What a later state keeps of an earlier one's places. -/
structure Rel.le (G G' : Rel) : Prop where
  n : G.n ≤ G'.n
  pl : ∀ b v p, b < G.n → G.pl b v = some p → G'.pl b v = some p
  im : ∀ cb o v, G.im cb o = some v → G'.im cb o = some v

theorem Rel.le.refl (G : Rel) : G.le G := ⟨Nat.le_refl _, fun _ _ _ _ h => h, fun _ _ _ h => h⟩
theorem Rel.le.trans {G G' G'' : Rel} (h : G.le G') (h' : G'.le G'') : G.le G'' :=
  ⟨Nat.le_trans h.n h'.n, fun b v p hb e => h'.pl b v p (Nat.lt_of_lt_of_le hb h.n) (h.pl b v p hb e), fun cb o v e => h'.im _ _ _ (h.im _ _ _ e)⟩

theorem V.mono {G G' : Rel} (h : G.le G') {v : Value} {a : AVal} (hv : V G v a) : V G' v a := by
  induction hv with
  | bool b => exact .bool b
  | int k n => exact .int k n
  | str s => exact .str s
  | nilPtr => exact .nilPtr
  | ptr b ver off p hb hp => exact .ptr b ver off p (Nat.lt_of_lt_of_le hb h.n) (h.pl _ _ _ hb hp)
  | iptr ad cells f hf _ ih => exact .iptr ad cells f (fun j c e => ⟨(hf j c e).1, h.im _ _ _ (hf j c e).2.1, (hf j c e).2.2⟩) ih
  | nilSlice => exact .nilSlice
  | islice ad m cap full cells f h1 h2 h3 _ ih => exact .islice ad m cap full cells f h1 h2 (fun j c e => ⟨(h3 j c e).1, h.im _ _ _ (h3 j c e).2.1, (h3 j c e).2.2⟩) ih
  | mslice b ver off len size lb exact p ad cap hb hp h1 h2 h3 h4 h5 h6 h7 => exact .mslice b ver off len size lb exact p ad cap (Nat.lt_of_lt_of_le hb h.n) (h.pl _ _ _ hb hp) h1 h2 h3 h4 h5 h6 h7
  | nilMap => exact .nilMap
  | map b p hb hp => exact .map b p (Nat.lt_of_lt_of_le hb h.n) (h.pl _ _ _ hb hp)
  | func fn A B as bs h1 h2 _ _ i1 i2 => exact .func fn A B as bs h1 h2 i1 i2
  | nilFunc => exact .nilFunc
  | yield b p hb hp => exact .yield b p (Nat.lt_of_lt_of_le hb h.n) (h.pl _ _ _ hb hp)
  | iter b p hb hp => exact .iter b p (Nat.lt_of_lt_of_le hb h.n) (h.pl _ _ _ hb hp)
  | iface t v a _ ih => exact .iface t v a ih
  | nilIface => exact .nilIface
  | agg A as h0 h1 _ ih => exact .agg A as h0 h1 ih
  | tuple A as h1 _ ih => exact .tuple A as h1 ih
  | unk v => exact .unk v

theorem Vs.mono {G G' : Rel} (h : G.le G') {vs : List Value} {as : List AVal} (hv : Vs G vs as) : Vs G' vs as := ⟨hv.1, fun j v a e e' => (hv.2 j v a e e').mono h⟩
theorem Vs.nil (G : Rel) : Vs G [] [] := ⟨rfl, fun j v a e => by simp at e⟩
theorem Vs.cons {G : Rel} {v : Value} {a : AVal} {vs : List Value} {as : List AVal} (h : V G v a) (hs : Vs G vs as) : Vs G (v :: vs) (a :: as) := by
  refine ⟨by simp [hs.1], fun j w b e e' => ?_⟩
  cases j with
  | zero => simp at e e'; exact e ▸ e' ▸ h
  | succ j => exact hs.2 j w b (by simpa using e) (by simpa using e')
theorem Vs.head {G : Rel} {v : Value} {a : AVal} {vs : List Value} {as : List AVal} (h : Vs G (v :: vs) (a :: as)) : V G v a := h.2 0 v a rfl rfl
theorem Vs.tail {G : Rel} {v : Value} {a : AVal} {vs : List Value} {as : List AVal} (h : Vs G (v :: vs) (a :: as)) : Vs G vs as :=
  ⟨by simpa using h.1, fun j w b e e' => h.2 (j + 1) w b (by simpa using e) (by simpa using e')⟩
theorem Vs.append {G : Rel} {vs ws : List Value} {as bs : List AVal} (h : Vs G vs as) (h' : Vs G ws bs) : Vs G (vs ++ ws) (as ++ bs) := by
  induction vs generalizing as with
  | nil => cases as with
    | nil => exact h'
    | cons a as => exact absurd h.1 (by simp)
  | cons v vs ih => cases as with
    | nil => exact absurd h.1 (by simp)
    | cons a as => exact .cons h.head (ih h.tail)
theorem Vs.get {G : Rel} {vs : List Value} {as : List AVal} (h : Vs G vs as) {j : Nat} {a : AVal} (e : as[j]? = some a) : ∃ v, vs[j]? = some v ∧ V G v a := by
  have hj : j < vs.length := by rw [h.1]; exact (List.getElem?_eq_some_iff.1 e).1
  exact ⟨vs[j], List.getElem?_eq_getElem hj, h.2 j _ a (List.getElem?_eq_getElem hj) e⟩
theorem Vs.drop {G : Rel} {vs : List Value} {as : List AVal} (h : Vs G vs as) (k : Nat) : Vs G (vs.drop k) (as.drop k) :=
  ⟨by simp [h.1], fun j v a e e' => h.2 (k + j) v a (by simpa using e) (by simpa using e')⟩
theorem Vs.take {G : Rel} {vs : List Value} {as : List AVal} (h : Vs G vs as) (k : Nat) : Vs G (vs.take k) (as.take k) :=
  ⟨by simp [h.1], fun j v a e e' => h.2 j v a (by rw [List.getElem?_take] at e; split at e <;> simp_all) (by rw [List.getElem?_take] at e'; split at e' <;> simp_all)⟩
theorem Vs.of_array {G : Rel} {A : Array Value} {as : List AVal} (h : A.size = as.length) (h' : ∀ (j : Nat) v a, A[j]? = some v → as[j]? = some a → V G v a) : Vs G A.toList as :=
  ⟨by simpa using h, fun j v a e e' => h' j v a (by simpa using e) e'⟩
theorem Vs.agg {G : Rel} {A : Array Value} {as : List AVal} (h : Vs G A.toList as) (h0 : ∀ v ∈ A.toList, v.oneCell' = true) : V G (.agg A) (.agg as) := .agg A as h0 (by simpa using h.1) fun j v a e e' => h.2 j v a (by simpa using e) e'
theorem Vs.tuple {G : Rel} {A : Array Value} {as : List AVal} (h : Vs G A.toList as) : V G (.tuple A) (.tuple as) := .tuple A as (by simpa using h.1) fun j v a e e' => h.2 j v a (by simpa using e) e'
theorem V.agg_inv {G : Rel} {v : Value} {as : List AVal} (h : V G v (.agg as)) : ∃ A : Array Value, v = .agg A ∧ Vs G A.toList as ∧ ∀ v ∈ A.toList, v.oneCell' = true := by
  cases h with
  | agg A as h0 h1 h2 => exact ⟨A, rfl, .of_array h1 h2, h0⟩

/-- A value of one cell. -/
theorem V.one {G : Rel} {v : Value} {a : AVal} (h : V G v a) (ho : a.one = true) : v.oneCell' = true := by
  cases h <;> first | rfl | simp [AVal.one] at ho
theorem Vs.one {G : Rel} {vs : List Value} {as : List AVal} (h : Vs G vs as) (ho : as.all AVal.one = true) : ∀ v ∈ vs, v.oneCell' = true := by
  intro v hv
  obtain ⟨j, hj, e⟩ := List.mem_iff_getElem.1 hv
  have hj' : j < as.length := h.1 ▸ hj
  have := h.2 j v as[j] (by rw [← e]; exact List.getElem?_eq_getElem hj) (List.getElem?_eq_getElem hj')
  exact this.one (List.all_eq_true.1 ho _ (List.getElem_mem hj'))
theorem V.storable {G : Rel} {v : Value} {a : AVal} (h : V G v a) (ho : a.storable = true) : ∀ u ∈ v.cells.toList, u.oneCell' = true := by
  cases h with
  | agg A as h0 h1 h2 => exact h0
  | tuple A as h1 h2 => simp [AVal.storable] at ho
  | unk v => simp [AVal.storable] at ho
  | _ => intro u hu; simp [Value.cells] at hu; subst hu; rfl
theorem storable_unk {a : AVal} (h : a.storable = true) : a ≠ .unk := by intro e; subst e; simp [AVal.storable] at h
theorem V.tuple_inv {G : Rel} {v : Value} {as : List AVal} (h : V G v (.tuple as)) : ∃ A : Array Value, v = .tuple A ∧ Vs G A.toList as := by
  cases h with
  | tuple A as h1 h2 => exact ⟨A, rfl, .of_array h1 h2⟩

/-- A value's cells. -/
theorem V.cells {G : Rel} {v : Value} {a : AVal} (h : V G v a) (hu : a ≠ .unk) : Vs G v.cells.toList a.cells := by
  cases h with
  | agg A as h0 h1 h2 => exact .of_array h1 h2
  | unk v => exact absurd rfl hu
  | ptr b ver off p h1 h2 => exact .cons (.ptr b ver off p h1 h2) (.nil _)
  | iptr ad cells f h1 h2 => exact .cons (.iptr ad cells f h1 h2) (.nil _)
  | islice ad m cap full cells f h1 h2 h3 h4 => exact .cons (.islice ad m cap full cells f h1 h2 h3 h4) (.nil _)
  | mslice b ver off len size lb exact p ad cap h1 h2 h3 h4 h5 h6 h7 h8 h9 => exact .cons (.mslice b ver off len size lb exact p ad cap h1 h2 h3 h4 h5 h6 h7 h8 h9) (.nil _)
  | map b p h1 h2 => exact .cons (.map b p h1 h2) (.nil _)
  | func fn A B as bs h1 h2 h3 h4 => exact .cons (.func fn A B as bs h1 h2 h3 h4) (.nil _)
  | yield b p h1 h2 => exact .cons (.yield b p h1 h2) (.nil _)
  | iter b p h1 h2 => exact .cons (.iter b p h1 h2) (.nil _)
  | iface t v a h => exact .cons (.iface t v a h) (.nil _)
  | tuple A as h1 h2 => exact .cons (.tuple A as h1 h2) (.nil _)
  | bool b => exact .cons (.bool b) (.nil _)
  | int k n => exact .cons (.int k n) (.nil _)
  | str s => exact .cons (.str s) (.nil _)
  | nilPtr => exact .cons .nilPtr (.nil _)
  | nilSlice => exact .cons .nilSlice (.nil _)
  | nilMap => exact .cons .nilMap (.nil _)
  | nilFunc => exact .cons .nilFunc (.nil _)
  | nilIface => exact .cons .nilIface (.nil _)

/-! ## Constants -/

mutual
theorem ofValue_V (G : Rel) : ∀ (v : Value) (a : AVal), ofValue v = some a → V G v a := by
  intro v a h
  cases v with
  | bool b => simp [ofValue] at h; subst h; exact .bool b
  | int k n => simp [ofValue] at h; subst h; exact .int k n
  | string s => simp [ofValue] at h; subst h; exact .str s
  | pointer p => cases p with
    | none => simp [ofValue] at h; subst h; exact .nilPtr
    | some p => simp [ofValue] at h
  | slice b l c =>
    unfold ofValue at h
    split at h <;> simp_all
    subst h
    exact .nilSlice
  | map r => cases r with
    | none => simp [ofValue] at h; subst h; exact .nilMap
    | some r => simp [ofValue] at h
  | nilFunc => simp [ofValue] at h; subst h; exact .nilFunc
  | nilIface => simp [ofValue] at h; subst h; exact .nilIface
  | func fn A B =>
    unfold ofValue at h
    split at h <;> simp_all
    obtain ⟨rfl, rfl, rfl⟩ := ‹_ ∧ _›
    subst h
    exact .func _ #[] #[] [] [] rfl rfl (fun j v a e => by simp at e) (fun j v a e => by simp at e)
  | iface t v =>
    simp only [ofValue, Option.map_eq_some_iff] at h
    obtain ⟨x, hx, rfl⟩ := h
    exact .iface t v x (ofValue_V G v x hx)
  | agg A =>
    obtain ⟨l⟩ := A
    simp only [ofValue] at h
    split at h
    · rename_i as has
      split at h
      · rename_i hall
        simp at h; subst h
        have hv := ofValues_Vs G l as has
        exact hv.agg (hv.one hall)
      · simp at h
    · simp at h
  | tuple A =>
    obtain ⟨l⟩ := A
    simp only [ofValue, Option.map_eq_some_iff] at h
    obtain ⟨x, hx, rfl⟩ := h
    exact (ofValues_Vs G l x hx).tuple
  | float k b => simp [ofValue] at h
  | complex k a b => simp [ofValue] at h
  | chan r => simp [ofValue] at h
theorem ofValues_Vs (G : Rel) : ∀ (vs : List Value) (as : List AVal), ofValues vs = some as → Vs G vs as := by
  intro vs as h
  cases vs with
  | nil => simp [ofValues] at h; subst h; exact .nil _
  | cons v vs =>
    simp only [ofValues] at h
    split at h
    · rename_i a ha
      split at h
      · rename_i as' has
        simp at h; subst h
        exact .cons (ofValue_V G v a ha) (ofValues_Vs G vs as' has)
      · simp at h
    · simp at h
end

end Go.Shadow

namespace Go.Shadow
open Go

/-! ## Code, memory, environments -/

def guardsOk (N : Nat) (l : List AOper) : Prop := ∀ o ∈ l, ∀ t b, o.guard = some (t, b) → t < N
def dstsOk (N : Nat) (l : List AOper) : Prop := ∀ o ∈ l, ∀ d, o.dst = some d → d < N

/-- Operation i must go ahead of j. -/
def Bef (ops : Array Oper) (i j : Nat) : Prop := ((Region.before ops).getD j 0).testBit i = true

/-- Where nothing is ready, all is listed. -/
def Full (md : Region.Mode) (ops : Array Oper) : Prop := ∀ L : Array Bool, L.size = ops.size → Region.ready md ops L = [] → ∀ i, i < ops.size → L.getD i false = true

/-- What is asked of a region whose order is open, and of the order in which the machine takes it. -/
structure DrawOk (P : Program) (N : Nat) (ops : Array Oper) (l : List AOper) (un : List (Nat × Nat)) (k : Nat) : Prop where
  modes : (P.follows .mixedOrders || !Region.departs ops) = true ∨ ((P.follows .mixedOrders || !Region.departs ops) = false ∧ Full .text ops ∧ Full .gc ops)
  dsts : dstsOk N l
  guards : guardsOk N l
  each : ∀ x ∈ l, ∃ o, ops[x.idx]? = some o ∧ cOp P o = some x.op ∧ cGuard ops o.guard = some x.guard ∧ o.dst = x.dst
  nodup : (l.map (·.idx)).Nodup
  all : ∀ i, i < ops.size → ∃ x ∈ l, x.idx = i
  below : ∀ (i : Nat) o, ops[i]? = some o → ∀ e ∈ o.after.toList, Region.binds .any e = true → e.on < ops.size
  self : ∀ x ∈ l, ¬ Bef ops x.idx x.idx
  order : l.Pairwise fun x y => ¬ Bef ops y.idx x.idx
  temps : l.Pairwise fun x y => (∀ t, x.dst = some t → t ∈ y.uses ∨ y.dst = some t → Bef ops x.idx y.idx) ∧ ∀ t, y.dst = some t → t ∈ x.uses → Bef ops x.idx y.idx
  slots : ∀ x ∈ l, x.op.kind = .fresh → ∃ s, x.slot = some s ∧ s < k
  apart : l.Pairwise fun x y => x.op.kind = .fresh → y.op.kind = .fresh → x.slot ≠ y.slot
  loud : l.Pairwise fun x y => x.op.kind ≠ .pure → y.op.kind ≠ .pure → Bef ops x.idx y.idx ∨ (un.contains (x.idx, y.idx) = true ∧ un.contains (y.idx, x.idx) = true)

inductive CC (P : Program) (N : Nat) : Code → ACode → Prop
  | skip : CC P N .skip .skip
  | region (id : Nat) (ops : Array Oper) (l : List AOper) : cOpers P ops ops.toList 0 = some l → dstsOk N l → guardsOk N l → CC P N (.region id ops false) (.region l)
  | draw (id : Nat) (ops : Array Oper) (l : List AOper) (un : List (Nat × Nat)) (k : Nat) : DrawOk P N ops l un k → CC P N (.region id ops true) (.draw l un k)
  | seq (a b : Code) (a' b' : ACode) : CC P N a a' → CC P N b b' → CC P N (.seq a b) (.seq a' b')
  | cond (c : Operand) (c' : Oprd) (a b : Code) (a' b' : ACode) : cOpr c = some c' → CC P N a a' → CC P N b b' → CC P N (.cond c a b) (.cond c' a' b')
  | block (id : Nat) (a : Code) (a' : ACode) : CC P N a a' → CC P N (.block id a) (.block id a')
  | loop (a : Code) (a' : ACode) (live : List Nat) : CC P N a a' → CC P N (.loop a) (.loop live a')
  | rangeFunc (f : Operand) (f' : Oprd) (ps : Array Tmp) (a b : Code) (a' b' : ACode) : cOpr f = some f' → (∀ p ∈ ps.toList, p < N) → ps.toList.Nodup → CC P N a a' → CC P N b b' →
      CC P N (.rangeFunc f ps a b) (.rangeFunc f' ps.toList a' b')
  | exit (id : Nat) : CC P N (.exit id) (.exit id)
  | scope (a : Code) (a' : ACode) (live : List Nat) : CC P N a a' → CC P N (.scope a) (.scope live a' a')
  | label (l : Nat) : CC P N (.label l) (.label l)
  | goto (l : Nat) : CC P N (.goto l) (.goto l)
  | ret : CC P N .ret .ret
  | fail (c : Code) : (∀ l, findLabel c l = none) → CC P N c .fail

def EnvRel (G : Rel) (e : Env) (tmps : Array Value) : Prop := ∀ k a, e.get k = some a → V G (tmps.getD k undef) a

def LState.of : LState → LoopState
  | .ready => .ready
  | .busy => .busy
  | .done => .done

def pendOf : AExit → Option Code
  | .normal => none
  | .exit id => some (.exit id)
  | .goto l => some (.goto l)
  | .ret => some .ret

def ABlk.ver : ABlk → Option Nat
  | .row n _ => some n
  | .map _ | .iter .. | .loop .. => some 0
  | .dead => none

def BlkRel (P : Program) (G : Rel) (w : World) (b : Nat) : ABlk → Prop
  | .row n cs => ∃ p arr el fr, G.pl b n = some p ∧ w.heap[p.cb]? = some (.cells arr el fr) ∧ arr.size = p.size ∧ cs.length = n ∧ n ≤ p.size ∧
      (∀ j, j < p.size → (decide (fr.1 ≤ j) && decide (j < fr.2)) = false) ∧ (∀ v ∈ arr.toList, v.oneCell' = true) ∧ ∀ (j : Nat) c, cs[j]? = some c → ∃ v, arr[j]? = some v ∧ V G v c
  | .map es => ∃ p ents clock, G.pl b 0 = some p ∧ w.heap[p.cb]? = some (.map ents clock) ∧ ents.size = es.length ∧
      ∀ (j : Nat) m a, ents[j]? = some m → es[j]? = some a → V G m.key a.1 ∧ V G m.val a.2
  | .iter pos rest => ∃ p s, G.pl b 0 = some p ∧ w.heap[p.cb]? = some (.stringIter s pos) ∧ rest = s.data.toList.drop pos
  | .loop st pend env params assign body => ∃ p L N, G.pl b 0 = some p ∧ w.heap[p.cb]? = some (.loop L) ∧ L.state = st.of ∧ L.pending = pendOf pend ∧
      L.params.toList = params ∧ params.Nodup ∧ EnvRel G env L.tmps ∧ N ≤ L.tmps.size ∧ (∀ q ∈ params, q < N) ∧ CC P N L.assign assign ∧ CC P N L.body body
  | .dead => True

def placeAt (G : Rel) (h : List ABlk) (b : Nat) : Option Place := (h[b]?).bind fun o => o.ver.bind fun v => G.pl b v

structure S (P : Program) (G : Rel) (h : List ABlk) (w : World) : Prop where
  len : G.n = h.length
  blk : ∀ b o, h[b]? = some o → BlkRel P G w b o
  im : ∀ cb o v, G.im cb o = some v → w.cell? ⟨cb, o, none⟩ = some v
  inj : ∀ b c p q, placeAt G h b = some p → placeAt G h c = some q → p.cb = q.cb → b = c
  noim : ∀ b p, placeAt G h b = some p → ∀ o, G.im p.cb o = none
  fut : ∀ b o v ver, h[b]? = some o → o.ver = some v → v < ver → G.pl b ver = none

def Tracked (G : Rel) (h : List ABlk) (cb : Nat) : Prop := ∃ b p, placeAt G h b = some p ∧ p.cb = cb

structure Ext (G : Rel) (h : List ABlk) (w : World) (G' : Rel) (h' : List ABlk) (w' : World) : Prop where
  le : G.le G'
  size : w.heap.size ≤ w'.heap.size
  tape : w'.tape = w.tape
  os : w'.os = w.os
  output : w'.output = w.output
  frame : ∀ cb, cb < w.heap.size → ¬ Tracked G h cb → w'.heap[cb]? = w.heap[cb]?
  tracked : ∀ cb, cb < w.heap.size → Tracked G' h' cb → Tracked G h cb
  dead : ∀ b : Nat, h[b]? = some ABlk.dead → h'[b]? = some ABlk.dead ∧ ∀ ver, G'.pl b ver = G.pl b ver
  moved : ∀ b p, placeAt G' h' b = some p → (∃ q, placeAt G h b = some q ∧ p.cb = q.cb) ∨ w.heap.size ≤ p.cb
  imnew : ∀ cb o v, G'.im cb o = some v → G.im cb o = some v ∨ w.heap.size ≤ cb

theorem Ext.refl (G : Rel) (h : List ABlk) (w : World) : Ext G h w G h w := ⟨.refl _, Nat.le_refl _, rfl, rfl, rfl, fun _ _ _ => rfl, fun _ _ h => h, fun _ h => ⟨h, fun _ => rfl⟩, fun _ p h => .inl ⟨p, h, rfl⟩, fun _ _ _ h => .inl h⟩
theorem Ext.trans {G G1 G2 : Rel} {h h1 h2 : List ABlk} {w w1 w2 : World} (a : Ext G h w G1 h1 w1) (b : Ext G1 h1 w1 G2 h2 w2) : Ext G h w G2 h2 w2 where
  le := a.le.trans b.le
  size := Nat.le_trans a.size b.size
  tape := b.tape.trans a.tape
  os := b.os.trans a.os
  output := b.output.trans a.output
  frame := fun cb hc ht => by
    rw [← a.frame cb hc ht]
    exact b.frame cb (Nat.lt_of_lt_of_le hc a.size) fun t => ht (a.tracked cb hc t)
  tracked := fun cb hc t => a.tracked cb hc (b.tracked cb (Nat.lt_of_lt_of_le hc a.size) t)
  dead := fun i hi => ⟨(b.dead i (a.dead i hi).1).1, fun v => ((b.dead i (a.dead i hi).1).2 v).trans ((a.dead i hi).2 v)⟩
  moved := fun i p hp => by
    rcases b.moved i p hp with ⟨q, hq, e⟩ | h
    · rcases a.moved i q hq with ⟨r, hr, e'⟩ | h
      · exact .inl ⟨r, hr, e.trans e'⟩
      · exact .inr (e ▸ h)
    · exact .inr (Nat.le_trans a.size h)
  imnew := fun cb o v hv => by
    rcases b.imnew cb o v hv with h | h
    · exact a.imnew cb o v h
    · exact .inr (Nat.le_trans a.size h)

theorem EnvRel.mono {G G' : Rel} (h : G.le G') {e : Env} {t : Array Value} (he : EnvRel G e t) : EnvRel G' e t := fun k a g => (he k a g).mono h

theorem placeAt_blk {P : Program} {G : Rel} {h : List ABlk} {w : World} (hS : S P G h w) {b : Nat} {p : Place} (hp : placeAt G h b = some p) : b < G.n ∧ p.cb < w.heap.size ∧ ∃ o, h[b]? = some o ∧ ∃ v, o.ver = some v ∧ G.pl b v = some p := by
  unfold placeAt at hp
  cases ho : h[b]? with
  | none => simp [ho] at hp
  | some o =>
    rw [ho] at hp
    simp only [Option.bind_some] at hp
    cases hv : o.ver with
    | none => simp [hv] at hp
    | some v =>
      simp only [hv, Option.bind_some] at hp
      have hb : b < h.length := (List.getElem?_eq_some_iff.1 ho).1
      refine ⟨hS.len ▸ hb, ?_, o, rfl, v, hv, hp⟩
      have hr := hS.blk b o ho
      cases o with
      | row n cs =>
        obtain ⟨q, arr, el, fr, h1, h2, _⟩ := hr
        simp [ABlk.ver] at hv; subst hv
        rw [h1] at hp; cases hp
        exact (Array.getElem?_eq_some_iff.1 h2).1
      | map es =>
        obtain ⟨q, ents, clock, h1, h2, _⟩ := hr
        simp [ABlk.ver] at hv; subst hv
        rw [h1] at hp; cases hp
        exact (Array.getElem?_eq_some_iff.1 h2).1
      | iter pos rest =>
        obtain ⟨q, s, h1, h2, _⟩ := hr
        simp [ABlk.ver] at hv; subst hv
        rw [h1] at hp; cases hp
        exact (Array.getElem?_eq_some_iff.1 h2).1
      | loop st pend env params assign body =>
        obtain ⟨q, L, N, h1, h2, _⟩ := hr
        simp [ABlk.ver] at hv; subst hv
        rw [h1] at hp; cases hp
        exact (Array.getElem?_eq_some_iff.1 h2).1
      | dead => simp [ABlk.ver] at hv

theorem placeAt_mk {G : Rel} {h : List ABlk} {b v : Nat} {o : ABlk} {p : Place} (ho : h[b]? = some o) (hv : o.ver = some v) (hp : G.pl b v = some p) : placeAt G h b = some p := by
  simp [placeAt, ho, hv, hp]

theorem BlkRel.keep {P : Program} {G G' : Rel} {w w' : World} {b : Nat} {o : ABlk} (h : BlkRel P G w b o) (hG : G.le G') (hb : b < G.n)
    (hw : ∀ v p, o.ver = some v → G.pl b v = some p → w'.heap[p.cb]? = w.heap[p.cb]?) : BlkRel P G' w' b o := by
  cases o with
  | row n cs =>
    obtain ⟨p, arr, el, fr, h1, h2, h3, h4, h5, h6, h8, h7⟩ := h
    exact ⟨p, arr, el, fr, hG.pl _ _ _ hb h1, (hw n p rfl h1).trans h2, h3, h4, h5, h6, h8, fun j c e => let ⟨v, e1, e2⟩ := h7 j c e; ⟨v, e1, e2.mono hG⟩⟩
  | map es =>
    obtain ⟨p, ents, clock, h1, h2, h3, h4⟩ := h
    exact ⟨p, ents, clock, hG.pl _ _ _ hb h1, (hw 0 p rfl h1).trans h2, h3, fun j m a e e' => ⟨(h4 j m a e e').1.mono hG, (h4 j m a e e').2.mono hG⟩⟩
  | iter pos rest =>
    obtain ⟨p, s, h1, h2, h3⟩ := h
    exact ⟨p, s, hG.pl _ _ _ hb h1, (hw 0 p rfl h1).trans h2, h3⟩
  | loop st pend env params assign body =>
    obtain ⟨p, L, N, h1, h2, h3, h4, h5, h8, h6, h7⟩ := h
    exact ⟨p, L, N, hG.pl _ _ _ hb h1, (hw 0 p rfl h1).trans h2, h3, h4, h5, h8, h6.mono hG, h7⟩
  | dead => trivial

/-- The one way in which memory goes on: block b is as 'o'' says (or is new, the last); all else stays. -/
theorem S.update {P : Program} {G G' : Rel} {h h' : List ABlk} {w w' : World} (hS : S P G h w) (b : Nat) (o' : ABlk) (hG : G.le G') (him : G'.im = G.im) (hn : G'.n = h'.length)
    (hb' : h'[b]? = some o') (hsame : ∀ i o, i ≠ b → h'[i]? = some o → h[i]? = some o) (hback : ∀ i, i ≠ b → i < h.length → h'[i]? = h[i]?) (hnd : h[b]? ≠ some ABlk.dead)
    (hsz : w.heap.size ≤ w'.heap.size) (ht : w'.tape = w.tape) (hos : w'.os = w.os) (hout : w'.output = w.output)
    (hw : ∀ cb, cb < w.heap.size → (∀ p, placeAt G h b = some p → p.cb ≠ cb) → w'.heap[cb]? = w.heap[cb]?)
    (hrel : BlkRel P G' w' b o')
    (hfut : ∀ v ver, o'.ver = some v → v < ver → G'.pl b ver = none) (hpleq : ∀ i v, i ≠ b → i < G.n → G'.pl i v = G.pl i v)
    (hpl : ∀ v p', o'.ver = some v → G'.pl b v = some p' → (∃ p, placeAt G h b = some p ∧ p'.cb = p.cb) ∨ w.heap.size ≤ p'.cb) :
    S P G' h' w' ∧ Ext G h w G' h' w' := by
  -- a place behind is one ahead, or b's new one
  have hplace : ∀ i p', placeAt G' h' i = some p' → (i ≠ b ∧ placeAt G h i = some p') ∨ (i = b ∧ ((∃ p, placeAt G h b = some p ∧ p'.cb = p.cb) ∨ w.heap.size ≤ p'.cb)) := by
    intro i p' hp'
    unfold placeAt at hp'
    cases ho : h'[i]? with
    | none => simp [ho] at hp'
    | some o =>
      rw [ho] at hp'
      simp only [Option.bind_some] at hp'
      cases hv : o.ver with
      | none => simp [hv] at hp'
      | some v =>
        simp only [hv, Option.bind_some] at hp'
        by_cases hi : i = b
        · subst hi
          rw [hb'] at ho; cases ho
          exact .inr ⟨rfl, hpl v p' hv hp'⟩
        · refine .inl ⟨hi, ?_⟩
          have ho2 := hsame i o hi ho
          have hr := hS.blk i o ho2
          have hi2 : i < G.n := by rw [hS.len]; exact (List.getElem?_eq_some_iff.1 ho2).1
          -- the place that it had
          have : ∃ p, G.pl i v = some p := by
            cases o with
            | row n cs => obtain ⟨p, _, _, _, h1, _⟩ := hr; simp [ABlk.ver] at hv; subst hv; exact ⟨p, h1⟩
            | map es => obtain ⟨p, _, _, h1, _⟩ := hr; simp [ABlk.ver] at hv; subst hv; exact ⟨p, h1⟩
            | iter pos rest => obtain ⟨p, _, h1, _⟩ := hr; simp [ABlk.ver] at hv; subst hv; exact ⟨p, h1⟩
            | loop st pend env params assign body => obtain ⟨p, _, _, h1, _⟩ := hr; simp [ABlk.ver] at hv; subst hv; exact ⟨p, h1⟩
            | dead => simp [ABlk.ver] at hv
          obtain ⟨p, hp⟩ := this
          have := hG.pl i v p hi2 hp
          rw [hp'] at this; cases this
          exact placeAt_mk ho2 hv hp
  have hkeepcb : ∀ i p, i ≠ b → placeAt G h i = some p → w'.heap[p.cb]? = w.heap[p.cb]? := fun i p hi hp =>
    hw p.cb (placeAt_blk hS hp).2.1 fun q hq hne => hi (hS.inj i b p q hp hq hne.symm)
  have hframe : ∀ cb, cb < w.heap.size → ¬ Tracked G h cb → w'.heap[cb]? = w.heap[cb]? := fun cb hc hnt => hw cb hc fun p hp e => hnt ⟨b, p, hp, e⟩
  refine ⟨⟨hn, ?_, ?_, ?_, ?_, ?_⟩, ⟨hG, hsz, ht, hos, hout, hframe, ?_, ?_, ?_, fun cb o v hv => .inl (him ▸ hv)⟩⟩
  · intro i o ho
    by_cases hi : i = b
    · subst hi; rw [hb'] at ho; cases ho; exact hrel
    · have ho2 := hsame i o hi ho
      refine (hS.blk i o ho2).keep hG (by rw [hS.len]; exact (List.getElem?_eq_some_iff.1 ho2).1) fun v p hv hp => hkeepcb i p hi (placeAt_mk ho2 hv hp)
  · intro cb o v hv
    rw [him] at hv
    have hc := hS.im cb o v hv
    have hlt : cb < w.heap.size := by
      rcases Nat.lt_or_ge cb w.heap.size with hlt | hge
      · exact hlt
      · simp [World.cell?, Array.getElem?_eq_none hge] at hc
    have hnt : ¬ Tracked G h cb := fun ⟨i, p, hp, e⟩ => by
      have := hS.noim i p hp o
      rw [e, hv] at this; cases this
    have := hframe cb hlt hnt
    simpa [World.cell?, this] using hc
  · intro i j p q hp hq e
    rcases hplace i p hp with ⟨hi, hp1⟩ | ⟨hi, hp1⟩ <;> rcases hplace j q hq with ⟨hj, hq1⟩ | ⟨hj, hq1⟩
    · exact hS.inj i j p q hp1 hq1 e
    · rcases hq1 with ⟨q0, hq0, e0⟩ | hge
      · exact absurd (hS.inj i b p q0 hp1 hq0 (e.trans e0)) hi
      · exact absurd (placeAt_blk hS hp1).2.1 (by omega)
    · rcases hp1 with ⟨p0, hp0, e0⟩ | hge
      · exact absurd (hS.inj j b q p0 hq1 hp0 (e.symm.trans e0)) hj
      · exact absurd (placeAt_blk hS hq1).2.1 (by omega)
    · exact hi.trans hj.symm
  · intro i p hp o
    rw [him]
    rcases hplace i p hp with ⟨hi, hp1⟩ | ⟨hi, hp1⟩
    · exact hS.noim i p hp1 o
    · rcases hp1 with ⟨p0, hp0, e0⟩ | hge
      · rw [e0]; exact hS.noim b p0 hp0 o
      · cases hv : G.im p.cb o with
        | none => rfl
        | some v =>
          have hc := hS.im _ _ _ hv
          simp [World.cell?, Array.getElem?_eq_none hge] at hc
  · intro i o v ver ho hv hlt
    by_cases hi : i = b
    · subst hi; rw [hb'] at ho; cases ho; exact hfut v ver hv hlt
    · have ho2 := hsame i o hi ho
      rw [hpleq i ver hi (by rw [hS.len]; exact (List.getElem?_eq_some_iff.1 ho2).1)]
      exact hS.fut i o v ver ho2 hv hlt
  · intro cb hc ⟨i, p, hp, e⟩
    rcases hplace i p hp with ⟨hi, hp1⟩ | ⟨hi, hp1⟩
    · exact ⟨i, p, hp1, e⟩
    · rcases hp1 with ⟨p0, hp0, e0⟩ | hge
      · exact ⟨b, p0, hp0, e0.symm.trans e⟩
      · omega
  · intro i hi
    have hib : i ≠ b := fun e => hnd (e ▸ hi)
    have hil : i < h.length := (List.getElem?_eq_some_iff.1 hi).1
    exact ⟨by rw [hback i hib hil]; exact hi, fun v => hpleq i v hib (by rw [hS.len]; exact hil)⟩
  · intro i p hp
    rcases hplace i p hp with ⟨hi, hp1⟩ | ⟨rfl, hp1⟩
    · exact .inl ⟨p, hp1, rfl⟩
    · exact hp1

/-- A new block's place. -/
def Rel.add (G : Rel) (ver : Nat) (p : Place) : Rel := { pl := fun b v => if b = G.n then (if v = ver then some p else none) else G.pl b v, im := G.im, n := G.n + 1 }
theorem Rel.le_add (G : Rel) (ver : Nat) (p : Place) : G.le (G.add ver p) :=
  ⟨Nat.le_succ _, fun b v q hb h => by simp only [Rel.add]; rw [if_neg (by omega)]; exact h, fun _ _ _ h => h⟩
theorem Rel.add_pl (G : Rel) (ver : Nat) (p : Place) : (G.add ver p).pl G.n ver = some p := by simp [Rel.add]

/-- All that lay ahead lies as it lay. -/
structure Same (w w' : World) : Prop where
  size : w.heap.size ≤ w'.heap.size
  old : ∀ cb, cb < w.heap.size → w'.heap[cb]? = w.heap[cb]?
  tape : w'.tape = w.tape
  os : w'.os = w.os
  output : w'.output = w.output

theorem Same.refl (w : World) : Same w w := ⟨Nat.le_refl _, fun _ _ => rfl, rfl, rfl, rfl⟩
theorem Same.push (w : World) (O : Obj) (d : Nat) : Same w { w with heap := w.heap.push O, drawn := d } :=
  ⟨by simp, fun cb hc => by simp [Array.getElem?_push, Nat.ne_of_lt hc], rfl, rfl, rfl⟩
theorem Same.drawn (w : World) (d : Nat) : Same w { w with drawn := d } := ⟨Nat.le_refl _, fun _ _ => rfl, rfl, rfl, rfl⟩

/-- A new block, the last. -/
theorem S.push {P : Program} {G : Rel} {h : List ABlk} {w w' : World} (hS : S P G h w) (o : ABlk) (ver : Nat) (p : Place) (hv : o.ver = some ver) (hw : Same w w') (hp : w.heap.size ≤ p.cb)
    (hrel : BlkRel P (G.add ver p) w' G.n o) : S P (G.add ver p) (h ++ [o]) w' ∧ Ext G h w (G.add ver p) (h ++ [o]) w' := by
  refine hS.update G.n o (Rel.le_add _ _ _) rfl (by simp [Rel.add, hS.len]) (by simp [hS.len]) (fun i o' hi ho' => ?_) (fun i _ hil => List.getElem?_append_left hil) (by rw [hS.len, List.getElem?_eq_none (Nat.le_refl _)]; simp) hw.size hw.tape hw.os hw.output (fun cb hc _ => hw.old cb hc) hrel (fun v ver' hv' hlt => ?_) (fun i v hi hlt => ?_) (fun v p' hv' hp' => ?_)
  · rw [List.getElem?_append] at ho'
    split at ho'
    · exact ho'
    · rename_i hge
      have : i - h.length = 0 := by
        have := (List.getElem?_eq_some_iff.1 ho').1
        simp at this; omega
      have := hS.len; omega
  · rw [hv] at hv'; cases hv'
    simp [Rel.add]; omega
  · simp [Rel.add]; omega
  · rw [hv] at hv'; cases hv'
    rw [Rel.add_pl] at hp'; cases hp'
    exact .inr hp

/-- A new row. -/
theorem S.pushRow {P : Program} {G : Rel} {h : List ABlk} {w w' : World} (hS : S P G h w) (cs : List AVal) (cb : Nat) (A : Array Value) (el : TypeId) (fr : Nat × Nat) (n : Nat) (hn : cs.length = n) (hw : Same w w') (hcb : w.heap.size ≤ cb)
    (hA : w'.heap[cb]? = some (.cells A el fr)) (hle : n ≤ A.size) (hV : Vs G (A.toList.take n) cs) (h1 : ∀ v ∈ A.toList, v.oneCell' = true) (hf : ∀ j, j < A.size → (decide (fr.1 ≤ j) && decide (j < fr.2)) = false) :
    S P (G.add n ⟨cb, A.size⟩) (h ++ [.row n cs]) w' ∧ Ext G h w (G.add n ⟨cb, A.size⟩) (h ++ [.row n cs]) w' := by
  refine hS.push (.row n cs) n ⟨cb, A.size⟩ rfl hw hcb ?_
  refine ⟨⟨cb, A.size⟩, A, el, fr, Rel.add_pl _ _ _, hA, rfl, hn, hle, hf, h1, fun j c e => ?_⟩
  have hj : j < n := hn ▸ (List.getElem?_eq_some_iff.1 e).1
  refine ⟨A[j], by simp [Array.getElem?_eq_getElem (show j < A.size by omega)], ?_⟩
  have := hV.2 j A[j] c (by rw [List.getElem?_take, if_pos hj]; simp [Array.getElem?_eq_getElem (show j < A.size by omega)]) e
  exact this.mono (Rel.le_add _ _ _)

/-- More cells that are never written again, in new blocks. -/
theorem S.more {P : Program} {G : Rel} {h : List ABlk} {w w' : World} (hS : S P G h w) (hw : Same w w') (im : Nat → Nat → Option Value) (him : ∀ cb o v, G.im cb o = some v → im cb o = some v)
    (hnew : ∀ cb o v, im cb o = some v → G.im cb o = none → w.heap.size ≤ cb ∧ w'.cell? ⟨cb, o, none⟩ = some v) :
    S P { G with im := im } h w' ∧ Ext G h w { G with im := im } h w' := by
  have hG : G.le { G with im := im } := ⟨Nat.le_refl _, fun _ _ _ _ h => h, him⟩
  have hpl : ∀ b, placeAt { G with im := im } h b = placeAt G h b := fun b => rfl
  refine ⟨⟨hS.len, ?_, ?_, ?_, ?_, hS.fut⟩, ⟨hG, hw.size, hw.tape, hw.os, hw.output, fun cb hc _ => hw.old cb hc, fun _ _ t => t, fun _ h => ⟨h, fun _ => rfl⟩, fun b p h => .inl ⟨p, (hpl b ▸ h), rfl⟩, fun cb o v hv => ?_⟩⟩
  · intro b o ho
    refine (hS.blk b o ho).keep hG (by rw [hS.len]; exact (List.getElem?_eq_some_iff.1 ho).1) fun v p hv hp => hw.old _ (placeAt_blk hS (placeAt_mk ho hv hp)).2.1
  · intro cb o v hv
    have hv : im cb o = some v := hv
    cases hg : G.im cb o with
    | none => exact (hnew cb o v hv hg).2
    | some u =>
      have := him cb o u hg
      rw [hv] at this; cases this
      have hc := hS.im cb o v hg
      have hlt : cb < w.heap.size := by
        rcases Nat.lt_or_ge cb w.heap.size with hlt | hge
        · exact hlt
        · simp [World.cell?, Array.getElem?_eq_none hge] at hc
      simpa [World.cell?, hw.old cb hlt] using hc
  · intro b c p q hp hq e
    exact hS.inj b c p q (hpl b ▸ hp) (hpl c ▸ hq) e
  · intro b p hp o
    have hp' : placeAt G h b = some p := hp
    show im p.cb o = none
    cases hq : im p.cb o with
    | none => rfl
    | some v =>
      have h1 := hS.noim b p hp' o
      have h2 := (hnew p.cb o v hq h1).1
      have h3 := (placeAt_blk hS hp').2.1
      omega
  · have hv : im cb o = some v := hv
    cases hg : G.im cb o with
    | none => exact .inr (hnew cb o v hv hg).1
    | some u =>
      have := him cb o u hg
      rw [hv] at this; cases this
      exact .inl rfl

/-- Nothing is turned. -/
theorem S.same {P : Program} {G : Rel} {h : List ABlk} {w w' : World} (hS : S P G h w) (hw : Same w w') : S P G h w' ∧ Ext G h w G h w' := by
  have := hS.more hw G.im (fun _ _ _ h => h) (fun cb o v h1 h2 => by rw [h1] at h2; cases h2)
  exact this

end Go.Shadow

namespace Go.Shadow
open Go

structure GlobOk (C : Ctx) (G : Rel) : Prop where
  glob : ∀ g cs, C.glob g = some cs → V G (.pointer (some ⟨g, 0, none⟩)) (.iptr cs)

theorem GlobOk.mono {C : Ctx} {G G' : Rel} (h : GlobOk C G) (hG : G.le G') : GlobOk C G' := ⟨fun g cs e => (h.glob g cs e).mono hG⟩

theorem evO_V {C : Ctx} {G : Rel} {e : Env} {a : Act} (he : EnvRel G e a.tmps) (hg : GlobOk C G) {x : Operand} {y : Oprd} {v : AVal} (hc : cOpr x = some y) (hv : evO C e y = some v) : V G (a.eval x) v := by
  cases x with
  | tmp t => simp [cOpr] at hc; subst hc; exact he t v hv
  | const c =>
    simp only [cOpr, Option.map_eq_some_iff] at hc
    obtain ⟨b, hb, rfl⟩ := hc
    simp [evO] at hv; subst hv
    exact ofValue_V G c b hb
  | global g =>
    simp [cOpr] at hc; subst hc
    simp only [evO] at hv
    split at hv
    · rename_i cs hcs; simp at hv; subst hv; exact hg.glob g cs hcs
    · simp at hv; subst hv; exact .unk _
  | func f =>
    simp [cOpr] at hc; subst hc
    simp [evO] at hv; subst hv
    exact .func _ #[] #[] [] [] rfl rfl (fun j v a e => by simp at e) (fun j v a e => by simp at e)

theorem evOs_V {C : Ctx} {G : Rel} {e : Env} {a : Act} (he : EnvRel G e a.tmps) (hg : GlobOk C G) : ∀ {xs : List Operand} {ys : List Oprd} {vs : List AVal}, cOprs xs = some ys → evOs C e ys = some vs → Vs G (xs.map a.eval) vs
  | [], ys, vs, hc, hv => by simp [cOprs] at hc; subst hc; simp [evOs] at hv; subst hv; exact .nil _
  | x :: xs, ys, vs, hc, hv => by
    simp only [cOprs] at hc
    split at hc
    · rename_i y ys' hy hys
      simp at hc; subst hc
      simp only [evOs] at hv
      split at hv
      · rename_i v hv1
        split at hv
        · rename_i vs' hvs
          simp at hv; subst hv
          exact .cons (evO_V he hg hy hv1) (evOs_V he hg hys hvs)
        · simp at hv
      · simp at hv
    · simp at hc

theorem evOo_V {C : Ctx} {G : Rel} {e : Env} {a : Act} (he : EnvRel G e a.tmps) (hg : GlobOk C G) {x : Option Operand} {y : Option Oprd} {v : Option AVal} (hc : cOpt x = some y) (hv : evOo C e y = some v) :
    (x = none ∧ v = none) ∨ ∃ o u, x = some o ∧ v = some u ∧ V G (a.eval o) u := by
  cases x with
  | none => simp [cOpt] at hc; subst hc; simp [evOo] at hv; subst hv; exact .inl ⟨rfl, rfl⟩
  | some o =>
    simp only [cOpt, Option.map_eq_some_iff] at hc
    obtain ⟨z, hz, rfl⟩ := hc
    simp only [evOo] at hv
    split at hv
    · rename_i u hu; simp at hv; subst hv; exact .inr ⟨o, u, rfl, rfl, evO_V he hg hz hu⟩
    · simp at hv

/-- What an operation comes to. -/
def Out (P : Program) (G : Rel) (h : List ABlk) (w : World) (r : Result Next) (h' : List ABlk) (a : AVal) : Prop :=
  ∃ G' w' cv, (r = .ok (.value cv) w' ∨ (r = .ok .skip w' ∧ cv = undef)) ∧ V G' cv a ∧ S P G' h' w' ∧ Ext G h w G' h' w'

theorem Out.same {P : Program} {G : Rel} {h : List ABlk} {w : World} (hS : S P G h w) {r : Result Next} {cv : Value} {a : AVal} (hr : r = .ok (.value cv) w) (hv : V G cv a) : Out P G h w r h a :=
  ⟨G, w, cv, .inl hr, hv, hS, .refl _ _ _⟩

/-- An operation that leaves the world alone. -/
def OutS (P : Program) (G : Rel) (w : World) (r : Result Next) (a : AVal) : Prop := ∃ cv, r = .ok (.value cv) w ∧ V G cv a

theorem OutS.same {P : Program} {G : Rel} {h : List ABlk} {w : World} (_ : S P G h w) {r : Result Next} {cv : Value} {a : AVal} (hr : r = .ok (.value cv) w) (hv : V G cv a) : OutS P G w r a := ⟨cv, hr, hv⟩

theorem OutS.out {P : Program} {G : Rel} {h : List ABlk} {w : World} {r : Result Next} {a : AVal} (ho : OutS P G w r a) (hS : S P G h w) : Out P G h w r h a :=
  let ⟨_, hr, hv⟩ := ho; .same hS hr hv

theorem V_undef (G : Rel) : V G undef (.tuple []) := .tuple #[] [] rfl fun j v a e => by simp at e

/-! ### Memory as the model reads it -/

theorem row_at {P : Program} {G : Rel} {h : List ABlk} {w : World} (hS : S P G h w) {b ver : Nat} {cs : List AVal} {p : Place} (hr : row? h b ver = some cs) (hp : G.pl b ver = some p) :
    h[b]? = some (.row ver cs) ∧ placeAt G h b = some p ∧ ∃ arr el fr, w.heap[p.cb]? = some (.cells arr el fr) ∧ arr.size = p.size ∧ cs.length = ver ∧ ver ≤ p.size ∧
      (∀ j, j < p.size → (decide (fr.1 ≤ j) && decide (j < fr.2)) = false) ∧ (∀ v ∈ arr.toList, v.oneCell' = true) ∧ ∀ (j : Nat) c, cs[j]? = some c → ∃ v, arr[j]? = some v ∧ V G v c := by
  unfold row? at hr
  split at hr
  · rename_i n cs' hb
    split at hr
    · rename_i hn; subst hn; simp at hr; subst hr
      obtain ⟨q, arr, el, fr, h1, h2⟩ := hS.blk b _ hb
      rw [hp] at h1; cases h1
      exact ⟨hb, placeAt_mk hb rfl hp, arr, el, fr, h2⟩
    · simp at hr
  · simp at hr

theorem cell_of {w : World} {cb : Nat} {arr : Array Value} {el : TypeId} {fr : Nat × Nat} (h : w.heap[cb]? = some (.cells arr el fr)) (j : Nat) : w.cell? ⟨cb, j, none⟩ = arr[j]? := by simp [World.cell?, h]
theorem frozen_of {w : World} {cb : Nat} {arr : Array Value} {el : TypeId} {fr : Nat × Nat} (h : w.heap[cb]? = some (.cells arr el fr)) (j : Nat) : w.frozen? ⟨cb, j, none⟩ = (decide (fr.1 ≤ j) && decide (j < fr.2)) := by
  obtain ⟨lo, hi⟩ := fr
  simp [World.frozen?, h]

/-- Cells that stand one behind the other, as they read. -/
def Reads (G : Rel) (w : World) (ad : Addr) (cs : List AVal) : Prop :=
  ∃ f : Nat → Value, (∀ j, j < cs.length → w.cell? (ad.add j) = some (f j) ∧ (f j).oneCell' = true) ∧ ∀ (j : Nat) c, cs[j]? = some c → V G (f j) c

theorem add_at (cb o j : Nat) : (⟨cb, o, none⟩ : Addr).add j = ⟨cb, o + j, none⟩ := by unfold Addr.add; split <;> simp_all
theorem add_spot {ad : Addr} (h : ad.spot = none) (j : Nat) : ad.add j = ⟨ad.block, ad.off + j, none⟩ := by
  obtain ⟨b, o, s⟩ := ad; simp at h; subst h; exact add_at b o j

theorem Reads.vals {G : Rel} {w : World} {ad : Addr} {cs : List AVal} (h : Reads G w ad cs) :
    ∃ vs : List Value, Vs G vs cs ∧ (∀ v ∈ vs, v.oneCell' = true) ∧ ∀ j v, vs[j]? = some v → w.cell? (ad.add j) = some v := by
  obtain ⟨f, h1, h2⟩ := h
  refine ⟨(List.range cs.length).map f, ⟨by simp, fun j v a e e' => ?_⟩, fun v hv => ?_, fun j v e => ?_⟩
  · simp only [List.getElem?_map, Option.map_eq_some_iff] at e
    obtain ⟨i, hi, rfl⟩ := e
    have hj : j < cs.length := (List.getElem?_eq_some_iff.1 e').1
    rw [List.getElem?_range hj] at hi; cases hi
    exact h2 j a e'
  · simp only [List.mem_map, List.mem_range] at hv
    obtain ⟨i, hi, rfl⟩ := hv
    exact (h1 i hi).2
  · simp only [List.getElem?_map, Option.map_eq_some_iff] at e
    obtain ⟨i, hi, rfl⟩ := e
    have hlt : j < cs.length := by
      rcases Nat.lt_or_ge j cs.length with h | h
      · exact h
      · rw [List.getElem?_eq_none (by simpa using h)] at hi; cases hi
    rw [List.getElem?_range hlt] at hi; cases hi
    exact (h1 _ hlt).1

theorem reads_row {P : Program} {G : Rel} {h : List ABlk} {w : World} (hS : S P G h w) {b ver off : Nat} {cs : List AVal} {p : Place} (hr : row? h b ver = some cs) (hp : G.pl b ver = some p) :
    Reads G w ⟨p.cb, off, none⟩ (cs.drop off) := by
  obtain ⟨_, _, arr, el, fr, h1, h2, h3, h4, h5, h6, h7⟩ := row_at hS hr hp
  refine ⟨fun j => arr.getD (off + j) undef, fun j hj => ?_, fun j c e => ?_⟩
  · have hlt : off + j < arr.size := by simp at hj; omega
    rw [add_at, cell_of h1]
    refine ⟨by simp [Array.getD, hlt], ?_⟩
    simp only [Array.getD, hlt, dite_true]
    exact h6 _ (by simp)
  · obtain ⟨v, e1, e2⟩ := h7 (off + j) c (by simpa using e)
    simpa [Array.getD_eq_getD_getElem?, e1] using e2

theorem Reads.take {G : Rel} {w : World} {ad : Addr} {cs : List AVal} (h : Reads G w ad cs) (n : Nat) : Reads G w ad (cs.take n) := by
  obtain ⟨f, h1, h2⟩ := h
  refine ⟨f, fun j hj => h1 j (by simp at hj; omega), fun j c e => h2 j c ?_⟩
  rw [List.getElem?_take] at e
  split at e <;> simp_all
theorem Reads.drop {G : Rel} {w : World} {cb o : Nat} {cs : List AVal} (h : Reads G w ⟨cb, o, none⟩ cs) (n : Nat) : Reads G w ⟨cb, o + n, none⟩ (cs.drop n) := by
  obtain ⟨f, h1, h2⟩ := h
  refine ⟨fun j => f (n + j), fun j hj => ?_, fun j c e => h2 (n + j) c (by simpa using e)⟩
  have := h1 (n + j) (by simp at hj; omega)
  rw [add_at] at this ⊢
  rwa [← Nat.add_assoc] at this

theorem reads_iptr {P : Program} {G : Rel} {h : List ABlk} {w : World} (hS : S P G h w) {v : Value} {cs : List AVal} (hv : V G v (.iptr cs)) : ∃ ad, v = .pointer (some ad) ∧ Reads G w ad cs := by
  cases hv with
  | iptr ad cells f h1 h2 =>
    refine ⟨ad, rfl, f, fun j hj => ?_, h2⟩
    have := h1 j cs[j] (List.getElem?_eq_getElem hj)
    rw [add_spot this.1]
    exact ⟨hS.im _ _ _ this.2.1, this.2.2⟩

/-- A slice whose cells are read: where it begins. -/
theorem sliceCells_reads {P : Program} {G : Rel} {h : List ABlk} {w : World} (hS : S P G h w) {size : Nat} {v : Value} {a : AVal} {cs : List AVal} (hv : V G v a) (hc : sliceCells h size a = some cs) :
    (v = .slice none 0 0 ∧ a = .nilSlice ∧ cs = []) ∨
    ∃ ad len cap, v = .slice (some ad) len cap ∧ sliceLen a = some len ∧ Reads G w ad cs ∧ cs.length = len * size := by
  cases hv with
  | nilSlice => simp [sliceCells] at hc; subst hc; exact .inl ⟨rfl, rfl, rfl⟩
  | islice ad m cap full cells f h1 h2 h3 h4 =>
    simp only [sliceCells] at hc
    split at hc
    case isFalse => simp at hc
    rename_i hlen
    simp at hc; subst hc
    refine .inr ⟨ad, m, cap, rfl, rfl, ⟨f, fun j hj => ?_, h4⟩, hlen⟩
    have := h3 j cells[j] (List.getElem?_eq_getElem hj)
    rw [add_spot this.1]
    exact ⟨hS.im _ _ _ this.2.1, this.2.2⟩
  | mslice b ver off len size' lb exact p ad cap h1 h2 h3 h4 h5 h6 h7 h8 h9 =>
    simp only [sliceCells] at hc
    split at hc
    · rename_i row hr
      split at hc
      · rename_i hcond
        obtain ⟨rfl, hle⟩ := hcond
        simp at hc; subst hc
        obtain ⟨_, _, arr, el, fr, k1, k2, k3, k4, _⟩ := row_at hS hr h2
        have hlen : ((row.drop off).take (len * size')).length = len * size' := by simp; omega
        refine .inr ⟨ad, len, cap, rfl, rfl, ?_, hlen⟩
        rcases h5 with hz | ho
        · have : len = 0 := by omega
          subst this
          exact ⟨fun _ => undef, fun j hj => by simp at hj, fun j c e => by simp at e⟩
        · have := (reads_row hS (off := off) hr h2).take (len * size')
          have had : ad = ⟨p.cb, off, none⟩ := by obtain ⟨x, y, z⟩ := ad; simp_all
          rw [had]; exact this
      · simp at hc
    · simp at hc
  | _ => simp [sliceCells] at hc

theorem run_reads {P : Program} {G : Rel} {w : World} {ad : Addr} {cs : List AVal} (h : Reads G w ad cs) :
    ∃ A : Array Value, (loadCells ad cs.length).run P w = .ok A w ∧ Vs G A.toList cs ∧ ∀ v ∈ A.toList, v.oneCell' = true := by
  obtain ⟨vs, h1, h2, h3⟩ := h.vals
  refine ⟨vs.toArray, ?_, by simpa using h1, by simpa using h2⟩
  have := run_loadCells_list (P := P) w ad vs h3
  rwa [h1.1] at this

end Go.Shadow

namespace Go.Shadow
open Go

/-! ### Writing into rows -/

def putArr (A : Array Value) (o : Nat) : List Value → Array Value
  | [] => A
  | v :: vs => putArr (A.setIfInBounds o v) (o + 1) vs

theorem putArr_size : ∀ (vs : List Value) (A : Array Value) (o : Nat), (putArr A o vs).size = A.size
  | [], _, _ => rfl
  | v :: vs, A, o => by rw [putArr, putArr_size vs]; simp

theorem putArr_get : ∀ (vs : List Value) (A : Array Value) (o j : Nat), o + vs.length ≤ A.size → (putArr A o vs)[j]? = if o ≤ j ∧ j < o + vs.length then vs[j - o]? else A[j]?
  | [], A, o, j, _ => by
    rw [putArr, if_neg (fun h => by simp only [List.length_nil] at h; omega)]
  | v :: vs, A, o, j, h => by
    simp only [List.length_cons] at h
    rw [putArr, putArr_get vs _ (o + 1) j (by simp; omega)]
    by_cases h1 : o + 1 ≤ j ∧ j < o + 1 + vs.length
    · rw [if_pos h1, if_pos (by simp; omega), show j - o = (j - (o + 1)) + 1 by omega, List.getElem?_cons_succ]
    · rw [if_neg h1]
      by_cases h2 : j = o
      · subst h2; rw [if_pos (by simp)]; simp [show j < A.size by omega]
      · rw [if_neg (by simp; omega), Array.getElem?_setIfInBounds_ne (by omega)]

theorem putCells_get : ∀ (vs : List AVal) (cs : List AVal) (o j : Nat), o + vs.length ≤ cs.length → (putCells cs o vs)[j]? = if o ≤ j ∧ j < o + vs.length then vs[j - o]? else cs[j]? := by
  intro vs cs
  induction cs generalizing vs with
  | nil =>
    intro o j h
    cases vs with
    | nil => cases o with
      | zero => rw [if_neg (fun h => by simp only [List.length_nil] at h; omega)]; simp [putCells]
      | succ o => simp at h
    | cons v vs => simp at h
  | cons c cs ih =>
    intro o j h
    cases o with
    | zero =>
      cases vs with
      | nil => rw [if_neg (by simp)]; simp [putCells]
      | cons v vs =>
        simp only [List.length_cons] at h
        simp only [putCells]
        cases j with
        | zero => simp
        | succ j =>
          rw [List.getElem?_cons_succ, ih vs 0 j (by omega)]
          by_cases h1 : 0 ≤ j ∧ j < 0 + vs.length
          · rw [if_pos h1, if_pos (by simp; omega)]; simp
          · rw [if_neg h1, if_neg (by simp; omega)]; simp
    | succ o =>
      simp only [List.length_cons] at h
      simp only [putCells]
      cases j with
      | zero => rw [if_neg (by omega)]; simp
      | succ j =>
        rw [List.getElem?_cons_succ, ih vs o j (by omega)]
        by_cases h1 : o ≤ j ∧ j < o + vs.length
        · rw [if_pos h1, if_pos (by omega)]; congr 1; omega
        · rw [if_neg h1, if_neg (by omega)]; simp

theorem putCells_length : ∀ (vs : List AVal) (cs : List AVal) (o : Nat), o + vs.length ≤ cs.length → (putCells cs o vs).length = cs.length := by
  intro vs cs
  induction cs generalizing vs with
  | nil => intro o h; cases vs with
    | nil => cases o <;> simp [putCells]
    | cons v vs => simp at h
  | cons c cs ih =>
    intro o h
    cases o with
    | zero => cases vs with
      | nil => simp [putCells]
      | cons v vs => simp [putCells, ih vs 0 (by simpa using h)]
    | succ o => simp [putCells, ih vs o (by simp at h; omega)]

theorem setCell_heap {w : World} {g o : Nat} {A : Array Value} {el : TypeId} {fr : Nat × Nat} (h : w.heap[g]? = some (.cells A el fr)) (v : Value) :
    w.setCell ⟨g, o, none⟩ v = { w with heap := w.heap.setIfInBounds g (.cells (A.setIfInBounds o v) el fr) } := by
  have hg := (Array.getElem?_eq_some_iff.1 h).1
  have he := (Array.getElem?_eq_some_iff.1 h).2
  simp only [World.setCell]
  congr 1
  apply Array.ext
  · simp
  · intro i h1 h2
    by_cases hi : i = g
    · subst hi
      simp [Array.getElem_modify, he]
    · simp only [Array.getElem_modify]
      rw [if_neg (by omega), Array.getElem_setIfInBounds, if_neg (by omega)]

theorem setCells_heap {g : Nat} {el : TypeId} {fr : Nat × Nat} : ∀ (vs : List Value) (o : Nat) (w : World) (A : Array Value), w.heap[g]? = some (.cells A el fr) →
    w.setCells g o vs = { w with heap := w.heap.setIfInBounds g (.cells (putArr A o vs) el fr) }
  | [], o, w, A, h => by
    have hg := (Array.getElem?_eq_some_iff.1 h).1
    have he := (Array.getElem?_eq_some_iff.1 h).2
    simp only [World.setCells, putArr]
    have : w.heap.setIfInBounds g (.cells A el fr) = w.heap := by
      apply Array.ext
      · simp
      · intro i h1 h2
        by_cases hi : i = g
        · subst hi; simp [he]
        · rw [Array.getElem_setIfInBounds, if_neg (by omega)]
    rw [this]
  | v :: vs, o, w, A, h => by
    have hg := (Array.getElem?_eq_some_iff.1 h).1
    simp only [World.setCells, putArr]
    rw [setCell_heap h, setCells_heap (el := el) (fr := fr) vs (o + 1) _ (A.setIfInBounds o v) (by simp [hg])]
    simp

/-- Cells of a row are written; so many cells stay known. -/
theorem S.write {P : Program} {G : Rel} {h : List ABlk} {w : World} (hS : S P G h w) {b ver : Nat} {cs : List AVal} {p : Place} (hr : row? h b ver = some cs) (hp : G.pl b ver = some p)
    {vs : List Value} {as : List AVal} (hv : Vs G vs as) (h1 : ∀ v ∈ vs, v.oneCell' = true) (o : Nat) (ho : o + as.length ≤ ver) :
    S P G (h.set b (.row ver (putCells cs o as))) (w.setCells p.cb o vs) ∧ Ext G h w G (h.set b (.row ver (putCells cs o as))) (w.setCells p.cb o vs) := by
  obtain ⟨hb, hpl, arr, el, fr, k1, k2, k3, k4, k5, k6, k7⟩ := row_at hS hr hp
  have hbl := (List.getElem?_eq_some_iff.1 hb).1
  have hg := (Array.getElem?_eq_some_iff.1 k1).1
  rw [setCells_heap vs o w arr k1]
  refine hS.update b (.row ver (putCells cs o as)) (.refl _) rfl (by simp [hS.len]) (by simp [hbl]) (fun i o' hi ho' => by rwa [List.getElem?_set_ne (by omega)] at ho') (fun i hi _ => by rw [List.getElem?_set_ne (by omega)]) (by rw [hb]; simp) (by simp) rfl rfl rfl
    (fun cb hc hne => ?_) ?_ (fun v ver' hv' hlt => ?_) (fun _ _ _ _ => rfl) (fun v p' hv' hp' => ?_)
  · have := hne p hpl
    simp [Array.getElem?_setIfInBounds_ne this]
  · refine ⟨p, putArr arr o vs, el, fr, hp, by simp [hg], by rw [putArr_size, k2], by rw [putCells_length _ _ _ (by omega), k3], k4, k5, fun v hv' => ?_, fun j c e => ?_⟩
    · obtain ⟨j, hj, e⟩ := List.mem_iff_getElem.1 hv'
      have : (putArr arr o vs)[j]? = some v := by rw [← e]; simp at hj; simp [hj]
      rw [putArr_get _ _ _ _ (by rw [hv.1]; omega)] at this
      split at this
      · exact h1 v (List.mem_of_getElem? this)
      · obtain ⟨hj', e'⟩ := Array.getElem?_eq_some_iff.1 this
        exact k6 v (by rw [← e']; simp)
    · rw [putCells_get _ _ _ _ (by omega)] at e
      rw [putArr_get _ _ _ _ (by rw [hv.1]; omega), hv.1]
      split at e
      · rename_i hin
        rw [if_pos hin]
        exact hv.get e
      · rename_i hin
        rw [if_neg hin]
        exact k7 j c e
  · simp [ABlk.ver] at hv'; subst hv'
    exact hS.fut b _ ver ver' hb rfl hlt
  · simp [ABlk.ver] at hv'; subst hv'
    rw [hp] at hp'; cases hp'
    exact .inl ⟨p, hpl, rfl⟩

/-- Of a row's place: its cells are there, and not frozen. -/
theorem row_cells {P : Program} {G : Rel} {h : List ABlk} {w : World} (hS : S P G h w) {b ver : Nat} {cs : List AVal} {p : Place} (hr : row? h b ver = some cs) (hp : G.pl b ver = some p) (j : Nat) (hj : j < p.size) :
    (w.cell? ⟨p.cb, j, none⟩).isSome = true ∧ w.frozen? ⟨p.cb, j, none⟩ = false := by
  obtain ⟨_, _, arr, el, fr, k1, k2, k3, k4, k5, k6, k7⟩ := row_at hS hr hp
  rw [cell_of k1, frozen_of k1]
  exact ⟨by simp [show j < arr.size by omega], k5 j hj⟩

end Go.Shadow

namespace Go.Shadow
open Go

theorem opU {P : Program} {t : TypeId} {d : TypeDesc} (h : P.underlying t = some d) (w : World) : (underlying t).run P w = .ok d w := run_underlying h w

/-! ### Numbers -/

theorem run_intOp {P : Program} {w : World} {G : Rel} (op : BinOp) (t : TypeId) (k : IntKind) (a b : Int) (r : AVal) (h : intOp op k a b = some r) :
    ∃ cv, (Go.binOp op t (.int k a) (.int k b)).run P w = .ok cv w ∧ V G cv r := by
  cases op <;> simp only [intOp] at h
  case shl => cases h
  case shr => cases h
  case quo =>
    split at h
    · cases h
    · rename_i hb; cases h
      exact ⟨_, by simp [Go.binOp, Op.intDiv, hb], .int _ _⟩
  case rem =>
    split at h
    · cases h
    · rename_i hb; cases h
      exact ⟨_, by simp [Go.binOp, Op.intDiv, hb], .int _ _⟩
  all_goals
    cases h
    first
      | (refine ⟨_, ?_, V.int _ _⟩; simp only [Go.binOp]; rw [if_neg (by simp)]; rfl)
      | (refine ⟨_, ?_, V.bool _⟩; simp only [Go.binOp]; rw [if_neg (by simp)]; rfl)

theorem run_shiftOp {P : Program} {w : World} {G : Rel} (op : BinOp) (t : TypeId) (k j : IntKind) (a b : Int) (r : AVal) (h : shiftOp op k a b = some r) (ho : op = .shl ∨ op = .shr) :
    ∃ cv, (Go.binOp op t (.int k a) (.int j b)).run P w = .ok cv w ∧ V G cv r := by
  unfold shiftOp at h
  split at h
  · cases h
  · rename_i hb
    rcases ho with rfl | rfl
    · cases h; exact ⟨_, by simp [Go.binOp, Op.shift, hb], .int _ _⟩
    · cases h; exact ⟨_, by simp [Go.binOp, Op.shift, hb], .int _ _⟩

theorem str_eq (x y : ByteArray) : (x.toList == y.toList) = (x.data.toList == y.data.toList) := by
  rw [ByteArray.toList_eq, ByteArray.toList_eq]

theorem run_strOp {P : Program} {w : World} {G : Rel} (op : BinOp) (t : TypeId) (x y : ByteArray) (r : AVal) (h : strOp op x.data.toList y.data.toList = some r) :
    ∃ cv, (Go.binOp op t (.string x) (.string y)).run P w = .ok cv w ∧ V G cv r := by
  cases op <;> simp only [strOp] at h
  case add =>
    split at h
    · rename_i hle
      cases h
      refine ⟨.string (x ++ y), ?_, ?_⟩
      · have : ¬ (IntKind.i64.max < ((x.size + y.size : Nat) : Int)) := by
          have e1 : x.data.toList.length = x.size := rfl
          have e2 : y.data.toList.length = y.size := rfl
          rw [e1, e2] at hle
          have e3 : IntKind.i64.max = 9223372036854775807 := by decide
          rw [e3]
          have e4 : roomB = 140737488355328 := rfl
          omega
        simp only [Go.binOp, Op.stringOp]
        rw [if_neg (by simpa using this)]
        rfl
      · have := V.str (G := G) (x ++ y)
        rwa [ByteArray.data_append, Array.toList_append] at this
    · cases h
  case eql => cases h; exact ⟨_, by simp only [Go.binOp, Op.stringOp, str_eq]; rfl, .bool _⟩
  case neq => cases h; exact ⟨_, by simp only [Go.binOp, Op.stringOp, str_eq]; rfl, .bool _⟩
  all_goals cases h

theorem run_eqGuard_int {P : Program} {w : World} (op : BinOp) (t : TypeId) (x y : Operand) (k j : IntKind) (a b : Int) : (eqGuard op t x y (.int k a) (.int j b)).run P w = .ok () w := by
  cases op <;> simp [eqGuard]
theorem run_eqGuard_str {P : Program} {w : World} (op : BinOp) (t : TypeId) (x y : Operand) (a b : ByteArray) : (eqGuard op t x y (.string a) (.string b)).run P w = .ok () w := by
  cases op <;> simp [eqGuard]

theorem run_binA {P : Program} {w : World} {G : Rel} (op : BinOp) (t : TypeId) (X Y : Operand) {x y : Value} {a b r : AVal} (hx : V G x a) (hy : V G y b) (h : binA op a b = some r) :
    ∃ cv, (do eqGuard op t X Y x y; Go.binOp op t x y : Sem Value).run P w = .ok cv w ∧ V G cv r := by
  cases hx with
  | int k n =>
    cases hy with
    | int j m =>
      simp only [Sem.run_bind, run_eqGuard_int, Result.andThen_ok]
      unfold binA at h
      cases op <;> simp only at h
      case shl => exact run_shiftOp _ _ _ _ _ _ _ h (.inl rfl)
      case shr => exact run_shiftOp _ _ _ _ _ _ _ h (.inr rfl)
      all_goals
        split at h
        · rename_i hk; subst hk; exact run_intOp _ _ _ _ _ _ h
        · cases h
    | _ => simp [binA] at h
  | str s =>
    cases hy with
    | str t' =>
      simp only [Sem.run_bind, run_eqGuard_str, Result.andThen_ok]
      exact run_strOp _ _ _ _ _ h
    | _ => simp [binA] at h
  | _ => cases hy <;> simp [binA] at h

theorem run_unA {P : Program} {w : World} {G : Rel} (op : UnOp) {x : Value} {a r : AVal} (hx : V G x a) (h : unA op a = some r) : ∃ cv, (Op.unary op x).run P w = .ok cv w ∧ V G cv r := by
  cases hx <;> cases op <;> simp [unA, intOp] at h
  case bool.not b => subst h; exact ⟨_, rfl, .bool _⟩
  case int.neg k n => subst h; exact ⟨_, by simp [Op.unary, Op.intArith], .int _ _⟩
  case int.xor k n => subst h; exact ⟨_, by simp [Op.unary, Op.intBits], .int _ _⟩

end Go.Shadow

namespace Go.Shadow
open Go

/-! ### '==' cell by cell -/

theorem eqs_len : ∀ (ks : List BK) (as bs : List AVal) (r : Bool), eqs ks as bs = some r → as.length = ks.length ∧ bs.length = ks.length
  | [], [], [], _, _ => ⟨rfl, rfl⟩
  | [], [], _ :: _, _, h => by simp [eqs] at h
  | [], _ :: _, _, _, h => by simp [eqs] at h
  | _ :: _, [], _, _, h => by simp [eqs] at h
  | _ :: _, _ :: _, [], _, h => by simp [eqs] at h
  | k :: ks, a :: as, b :: bs, r, h => by
    simp only [eqs] at h
    cases he : eqB k a b with
    | none => simp [he] at h
    | some t => cases t with
      | true => simp only [he] at h; have := eqs_len ks as bs r h; simpa using this
      | false =>
        simp only [he] at h
        split at h
        · simpa using ‹_›
        · cases h

theorem eqs_append : ∀ (k1 k2 : List BK) (as bs : List AVal) (r : Bool), eqs (k1 ++ k2) as bs = some r →
    ∃ r1, eqs k1 (as.take k1.length) (bs.take k1.length) = some r1 ∧ (r1 = false → r = false) ∧ (r1 = true → eqs k2 (as.drop k1.length) (bs.drop k1.length) = some r)
  | [], k2, as, bs, r, h => ⟨true, by simp [eqs], (fun h => absurd h (by simp)), fun _ => by simpa using h⟩
  | k :: k1, k2, as, bs, r, h => by
    have hl := eqs_len _ _ _ _ h
    cases as with
    | nil => simp at hl
    | cons a as =>
      cases bs with
      | nil => simp at hl
      | cons b bs =>
        simp only [List.cons_append, eqs, List.length_cons, List.take_succ_cons, List.drop_succ_cons] at h ⊢
        cases he : eqB k a b with
        | none => simp [he] at h
        | some t => cases t with
          | true => simp only [he] at h ⊢; exact eqs_append k1 k2 as bs r h
          | false =>
            simp only [he] at h ⊢
            split at h
            · rename_i hc
              cases h
              refine ⟨false, ?_, fun _ => rfl, (fun h => absurd h (by simp))⟩
              rw [if_pos]
              simp at hc ⊢; omega
            · cases h

theorem run_info {P : Program} {t : TypeId} {d : TypeDesc} (h : P.underlying t = some d) : ∃ i, P.info? t = some i := by
  unfold Program.underlying at h
  cases hi : P.info? t with
  | none => simp [hi] at h
  | some i => exact ⟨i, rfl⟩

def aggD : TypeDesc → Bool
  | .struct _ | .array _ _ => true
  | _ => false

theorem run_isAgg {P : Program} {w : World} {t : TypeId} {d : TypeDesc} (h : P.underlying t = some d) :
    (isAgg t).run P w = .ok (aggD d) w := by
  cases d <;> simp [isAgg, run_underlying h, aggD]

theorem run_part_one {P : Program} {w : World} {t : TypeId} {d : TypeDesc} (h : P.underlying t = some d) (hd : (aggD d) = false) (A : Array Value) (off : Nat) (v : Value) (hv : A[off]? = some v) :
    (part t A off).run P w = .ok v w := by
  simp [part, run_isAgg h, hd, hv]

theorem run_part_agg {P : Program} {w : World} {t : TypeId} {d : TypeDesc} (h : P.underlying t = some d) (hd : (aggD d) = true) (A : Array Value) (off n : Nat) (hn : P.cellsOf t = n) :
    (part t A off).run P w = .ok (.agg (A.extract off (off + n))) w := by
  obtain ⟨i, hi⟩ := run_info h
  have : i.size = n := by simpa [Program.cellsOf, hi] using hn
  simp [part, run_isAgg h, hd, sizeOf, typeInfo, hi, this]

/-- A value of a type that is asked cell by cell, and its cells. -/
def Fits (P : Program) (G : Rel) (t : TypeId) (x : Value) (as : List AVal) : Prop :=
  (∃ fs, P.underlying t = some (.struct fs)) ∧ (∃ A : Array Value, x = .agg A ∧ Vs G A.toList as) ∨
  (¬ ∃ fs, P.underlying t = some (.struct fs)) ∧ ∃ a, as = [a] ∧ V G x a

theorem eqB_run {P : Program} {G : Rel} {w : World} (D : Nat) (t : TypeId) (k : BK) (ht : match k with | .bool => P.underlying t = some .bool | .int => ∃ j, P.underlying t = some (.int j) | .str => P.underlying t = some .string)
    {x y : Value} {a b : AVal} (hx : V G x a) (hy : V G y b) {r : Bool} (h : eqB k a b = some r) : (Op.equalIn (D + 1) t x y).run P w = .ok r w := by
  cases k with
  | bool =>
    cases hx <;> cases hy <;> simp [eqB] at h
    subst h
    exact run_equalIn_bool' w D t _ _ ht
  | int =>
    obtain ⟨j, ht⟩ := ht
    cases hx <;> cases hy <;> simp [eqB] at h
    obtain ⟨rfl, rfl⟩ := h
    exact run_equalIn_int w D t _ _ _ _ ht
  | str =>
    cases hx <;> cases hy <;> simp [eqB] at h
    rw [run_equalIn_string w D t _ _ ht, str_eq]
    rw [← h]
    simp

theorem part_fits {P : Program} {G : Rel} {w : World} {t : TypeId} {d : TypeDesc} (hd : P.underlying t = some d) (hna : ∀ n e, d ≠ .array n e) {A : Array Value} {as : List AVal} (hA : Vs G A.toList as) (off n : Nat) (hn : P.cellsOf t = n)
    (h1 : (¬ ∃ fs, P.underlying t = some (.struct fs)) → n = 1) (hle : off + n ≤ as.length) :
    ∃ x, (part t A off).run P w = .ok x w ∧ Fits P G t x ((as.drop off).take n) := by
  by_cases hs : ∃ fs, P.underlying t = some (.struct fs)
  · obtain ⟨fs, hfs⟩ := hs
    rw [hd] at hfs; cases hfs
    refine ⟨_, run_part_agg hd rfl A off n hn, .inl ⟨⟨fs, hd⟩, _, rfl, ?_⟩⟩
    have := (hA.drop off).take n
    rw [Array.toList_extract]
    simpa [List.extract_eq_take_drop, Nat.add_sub_cancel_left] using this
  · have hn1 := h1 hs
    subst hn1
    have hlt : off < as.length := by omega
    obtain ⟨v, e1, e2⟩ := hA.get (List.getElem?_eq_getElem hlt)
    refine ⟨v, run_part_one hd ?_ A off v (by simpa using e1), .inr ⟨hs, as[off], ?_, e2⟩⟩
    · cases d with
      | struct fs => exact absurd ⟨fs, hd⟩ hs
      | array n e => exact absurd rfl (hna n e)
      | _ => rfl
    · rw [List.drop_eq_getElem_cons hlt]; rfl

theorem flat_array {P : Program} : ∀ (d : Nat) (t : TypeId) (ks : List BK), flatN P d t = some ks → ∃ u, P.underlying t = some u ∧ (∀ n e, u ≠ .array n e) ∧ ((¬ ∃ fs, P.underlying t = some (.struct fs)) → ks.length = 1)
  | 0, t, ks, h => by simp [flatN] at h
  | d + 1, t, ks, h => by
    unfold flatN at h
    split at h
    · rename_i hu; cases h; exact ⟨_, hu, fun _ _ => by simp, fun _ => rfl⟩
    · rename_i hu; cases h; exact ⟨_, hu, fun _ _ => by simp, fun _ => rfl⟩
    · rename_i hu; cases h; exact ⟨_, hu, fun _ _ => by simp, fun _ => rfl⟩
    · rename_i fs hu; exact ⟨_, hu, fun _ _ => by simp, fun hn => absurd ⟨fs, hu⟩ hn⟩
    · cases h

theorem eq_flat {P : Program} {G : Rel} : ∀ (d : Nat) (t : TypeId) (ks : List BK), flatN P d t = some ks → ∀ (D : Nat), d ≤ D → ∀ (w : World) (x y : Value) (as bs : List AVal) (r : Bool),
    Fits P G t x as → Fits P G t y bs → eqs ks as bs = some r → (Op.equalIn D t x y).run P w = .ok r w
  | 0, t, ks, h => by simp [flatN] at h
  | d + 1, t, ks, h => by
    intro D hD w x y as bs r hx hy he
    obtain ⟨D, rfl⟩ : ∃ E, D = E + 1 := ⟨D - 1, by omega⟩
    have one : ∀ (k : BK), ks = [k] → (match k with | .bool => P.underlying t = some .bool | .int => ∃ j, P.underlying t = some (.int j) | .str => P.underlying t = some .string) →
        (¬ ∃ fs, P.underlying t = some (.struct fs)) → (Op.equalIn (D + 1) t x y).run P w = .ok r w := by
      intro k hk ht hns
      subst hk
      rcases hx with ⟨hs, _⟩ | ⟨_, a, rfl, ha⟩
      · exact absurd hs hns
      · rcases hy with ⟨hs, _⟩ | ⟨_, b, rfl, hb⟩
        · exact absurd hs hns
        · refine eqB_run D t k ht ha hb ?_
          simp only [eqs] at he
          cases hq : eqB k a b with
          | none => simp [hq] at he
          | some q => cases q <;> simp [hq] at he <;> simp [he]
    unfold flatN at h
    split at h
    · rename_i hu; cases h; exact one .bool rfl hu (by simp [hu])
    · rename_i k hu; cases h; exact one .int rfl ⟨k, hu⟩ (by simp [hu])
    · rename_i hu; cases h; exact one .str rfl hu (by simp [hu])
    · rename_i fs hu
      split at h
      · cases h
      · rename_i hheld
        simp at hheld
        rcases hx with ⟨_, A, rfl, hA⟩ | ⟨hns, _⟩
        · rcases hy with ⟨_, B, rfl, hB⟩ | ⟨hns, _⟩
          · have hf : P.fieldsOf t = fs := by simp [Program.fieldsOf, hu]
            rw [run_equalIn_struct w D t A B (by rw [hf]; exact hu) hheld, hf]
            -- field by field
            have key : ∀ (l : List Field) (o : Nat) (js : List BK), flatFs P (flatN P d) l o = some js → ∀ (r : Bool), o + js.length = as.length → o + js.length = bs.length →
                eqs js (as.drop o) (bs.drop o) = some r → (Op.eqFields D A B l).run P w = .ok r w := by
              intro l
              induction l with
              | nil =>
                intro o js hj r h1 h2 h3
                simp [flatFs] at hj; subst hj
                have e1 := eqs_len _ _ _ _ h3
                have e2 : as.drop o = [] := List.eq_nil_of_length_eq_zero e1.1
                have e3 : bs.drop o = [] := List.eq_nil_of_length_eq_zero e1.2
                rw [e2, e3] at h3
                simp [eqs] at h3; subst h3
                rfl
              | cons f l ih =>
                intro o js hj r h1 h2 h3
                simp only [flatFs] at hj
                split at hj
                · cases hj
                · rename_i hname
                  split at hj
                  · rename_i hoff
                    split at hj
                    · rename_i kf hkf
                      split at hj
                      · rename_i hcells
                        split at hj
                        · rename_i jr hjr
                          cases hj
                          simp only [List.length_append] at h1 h2
                          obtain ⟨r1, q1, q2, q3⟩ := eqs_append kf jr _ _ r h3
                          obtain ⟨u, hu', hna, hone⟩ := flat_array d f.type kf hkf
                          obtain ⟨xa, xr, xf⟩ := part_fits (G := G) (P := P) (w := w) hu' hna hA f.offset kf.length hcells hone (by omega)
                          obtain ⟨ya, yr, yf⟩ := part_fits (G := G) (P := P) (w := w) hu' hna hB f.offset kf.length hcells hone (by omega)
                          rw [hoff] at xf yf
                          have := eq_flat d f.type kf hkf D (by omega) w xa ya _ _ r1 xf yf q1
                          simp only [Op.eqFields, ne_eq, hname, not_false_eq_true, if_true, Sem.run_bind, xr, yr, Result.andThen_ok, this]
                          cases r1 with
                          | false => simp [q2 rfl]
                          | true =>
                            simp only [Bool.not_true, Bool.false_eq_true, if_false]
                            refine ih (o + kf.length) jr hjr r (by omega) (by omega) ?_
                            have := q3 rfl
                            rwa [List.drop_drop, List.drop_drop] at this
                        · cases hj
                      · cases hj
                    · cases hj
                  · cases hj
            have hl := eqs_len _ _ _ _ he
            exact key fs.toList 0 ks h r (by omega) (by omega) (by simpa using he)
          · exact absurd ⟨fs, hu⟩ hns
        · exact absurd ⟨fs, hu⟩ hns
    · cases h

end Go.Shadow

namespace Go.Shadow
open Go

variable {P : Program} {C : Ctx} {G : Rel} {e : Env} {a : Act} {st st' : St} {w : World} {v : AVal} {o : Oper}

/-! ### Operations that leave memory alone -/

theorem so_mov (hS : S P G st.h w) (he : EnvRel G e a.tmps) (hg : GlobOk C G) {x : Operand} {y : Oprd} (ho : o.op = .move x ∨ o.op = .assign x) (hc : cOpr x = some y) (h : stepOp C e (.mov y) st = some (v, st')) :
    Out P G st.h w ((execOp a.eval o).run P w) st'.h v := by
  simp only [stepOp, Option.map_eq_some_iff] at h
  obtain ⟨u, hu, h⟩ := h
  cases h
  refine .same hS (cv := a.eval x) ?_ (evO_V he hg hc hu)
  rcases ho with ho | ho <;> simp [execOp, ho]

theorem so_pick (hS : S P G st.h w) (he : EnvRel G e a.tmps) (hg : GlobOk C G) {c x y : Operand} {c' x' y' : Oprd} (ho : o.op = .pick c x y) (h1 : cOpr c = some c') (h2 : cOpr x = some x') (h3 : cOpr y = some y')
    (h : stepOp C e (.pick c' x' y') st = some (v, st')) : Out P G st.h w ((execOp a.eval o).run P w) st'.h v := by
  simp only [stepOp] at h
  split at h
  · rename_i t ht
    simp only [Option.map_eq_some_iff] at h
    obtain ⟨u, hu, h⟩ := h
    cases h
    have hcv := evO_V he hg h1 ht
    cases hce : a.eval c <;> rw [hce] at hcv <;> cases hcv
    cases t with
    | true => exact .same hS (cv := a.eval x) (by simp [execOp, ho, hce, asBool]) (evO_V he hg h2 hu)
    | false => exact .same hS (cv := a.eval y) (by simp [execOp, ho, hce, asBool]) (evO_V he hg h3 hu)
  · cases h

theorem so_nilCheck (hS : S P G st.h w) (he : EnvRel G e a.tmps) (hg : GlobOk C G) {x : Operand} {y : Oprd} (ho : o.op = .nilCheck x) (hc : cOpr x = some y) (h : stepOp C e (.nilCheck y) st = some (v, st')) :
    Out P G st.h w ((execOp a.eval o).run P w) st'.h v := by
  simp only [stepOp] at h
  split at h
  · rename_i hu; cases h
    have hv := evO_V he hg hc hu
    generalize hq : a.eval x = q at hv
    cases hv with
    | ptr b ver off p h1 h2 => exact .same hS (by simp [execOp, ho, hq]) (.ptr _ _ _ p h1 h2)
  · rename_i hu; cases h
    have hv := evO_V he hg hc hu
    generalize hq : a.eval x = q at hv
    cases hv with
    | iptr ad cells f h1 h2 => exact .same hS (by simp [execOp, ho, hq]) (.iptr ad _ f h1 h2)
  · rename_i hu; cases h
    have hv := evO_V he hg hc hu
    generalize hq : a.eval x = q at hv
    cases hv with
    | func fn A B as bs h1 h2 h3 h4 => exact .same hS (by simp [execOp, ho, hq]) (.func _ A B _ _ h1 h2 h3 h4)
  · cases h

theorem so_bin (hS : S P G st.h w) (he : EnvRel G e a.tmps) (hg : GlobOk C G) {op : BinOp} {t t' : TypeId} {x y : Operand} {x' y' : Oprd} (ho : o.op = .binOp op t x y t') (h1 : cOpr x = some x') (h2 : cOpr y = some y')
    (h : stepOp C e (.bin op x' y') st = some (v, st')) : Out P G st.h w ((execOp a.eval o).run P w) st'.h v := by
  simp only [stepOp] at h
  split at h
  · rename_i p q hp hq
    simp only [Option.map_eq_some_iff] at h
    obtain ⟨u, hu, h⟩ := h
    cases h
    obtain ⟨cv, hr, hv⟩ := run_binA (P := P) (w := w) op t x y (evO_V he hg h1 hp) (evO_V he hg h2 hq) hu
    refine .same hS (cv := cv) ?_ hv
    simp only [execOp, ho, Sem.run_bind] at hr ⊢
    rw [hr]; rfl
  · cases h

theorem so_un (hS : S P G st.h w) (he : EnvRel G e a.tmps) (hg : GlobOk C G) {op : UnOp} {t : TypeId} {x : Operand} {x' : Oprd} (ho : o.op = .unOp op t x) (h1 : cOpr x = some x')
    (h : stepOp C e (.un op x') st = some (v, st')) : Out P G st.h w ((execOp a.eval o).run P w) st'.h v := by
  simp only [stepOp] at h
  split at h
  · rename_i p hp
    simp only [Option.map_eq_some_iff] at h
    obtain ⟨u, hu, h⟩ := h
    cases h
    obtain ⟨cv, hr, hv⟩ := run_unA (P := P) (w := w) op (evO_V he hg h1 hp) hu
    refine .same hS (cv := cv) ?_ hv
    simp only [execOp, ho, Sem.run_bind, hr]; rfl
  · cases h

def EKOk (P : Program) (t : TypeId) : EK → Prop
  | .bool => P.underlying t = some .bool
  | .ptr => ∃ el, P.underlying t = some (.pointer el) ∧ P.cellsOf el ≠ 0
  | .slice => ∃ el, P.underlying t = some (.slice el)
  | .func => ∃ x y z, P.underlying t = some (.func x y z)
  | .map => ∃ x y, P.underlying t = some (.map x y)
  | .iface => ∃ m, P.underlying t = some (.interface m)

theorem run_eqE (D : Nat) (t : TypeId) (k : EK) (ht : EKOk P t k)
    {x y : Value} {p q : AVal} (hx : V G x p) (hy : V G y q) {r : Bool} (h : eqE k p q = some r) : (Op.equalIn (D + 1) t x y).run P w = .ok r w := by
  unfold eqE at h
  split at h
  case h_1 =>
    cases hx; cases hy
    simp at h; subst h
    exact run_equalIn_bool' w D t _ _ ht
  case h_7 b v o b' v' o' =>
    obtain ⟨el, ht, hcell⟩ := ht
    obtain ⟨i, hi⟩ : ∃ i, P.info? el = some i := by
      unfold Program.cellsOf at hcell
      cases hi : P.info? el with
      | none => simp [hi] at hcell
      | some i => exact ⟨i, rfl⟩
    have hsz : i.size ≠ 0 := by simpa [Program.cellsOf, hi] using hcell
    cases hx with
    | ptr _ _ _ p h1 h2 => cases hy with
      | ptr _ _ _ p' h1' h2' =>
        split at h
        · rename_i hc
          obtain ⟨rfl, rfl⟩ := hc
          rw [h2] at h2'; cases h2'
          simp at h; subst h
          rw [Op.equalIn]
          simp only [Sem.run_bind, run_underlying ht, Result.andThen_ok, sizeOf, typeInfo, run_program, hi, Sem.run_pure, hsz, ne_eq, not_false_eq_true, if_true, sameAddr, beq_self_eq_true, Sem.run_ite]
          by_cases hoo : o = o'
          · subst hoo; simp
          · have : ((⟨p.cb, o, none⟩ : Addr) == ⟨p.cb, o', none⟩) = false := by simp [hoo]
            simp [this, hoo]
        · cases h
  case h_22 => cases h
  all_goals
    cases hx; cases hy; cases h
    first
      | (obtain ⟨el, ht, _⟩ := ht; rw [Op.equalIn]; simp only [Sem.run_bind, run_underlying ht, Result.andThen_ok]; rfl)
      | (obtain ⟨el, ht⟩ := ht; rw [Op.equalIn]; simp only [Sem.run_bind, run_underlying ht, Result.andThen_ok]; rfl)
      | (obtain ⟨x, y, z, ht⟩ := ht; rw [Op.equalIn]; simp only [Sem.run_bind, run_underlying ht, Result.andThen_ok]; rfl)
      | (obtain ⟨x, y, ht⟩ := ht; rw [Op.equalIn]; simp only [Sem.run_bind, run_underlying ht, Result.andThen_ok]; rfl)

end Go.Shadow

namespace Go.Shadow
open Go

variable {P : Program} {C : Ctx} {G : Rel} {e : Env} {a : Act} {st st' : St} {w : World} {v : AVal} {o : Oper}

def eqOp (neg : Bool) : BinOp := if neg then .neq else .eql

theorem run_binOp_eq (neg : Bool) (t : TypeId) (x y : Value) (hx : ∀ k n, x ≠ .int k n) (hs : ∀ s, x ≠ .string s) (hf : ∀ k b, x ≠ .float k b) (hc : ∀ k b c, x ≠ .complex k b c) {r : Bool} (h : (Op.equal t x y).run P w = .ok r w) :
    (Go.binOp (eqOp neg) t x y).run P w = .ok (.bool (neg != r)) w := by
  cases neg
  · have : Go.binOp .eql t x y = (do pure (.bool (← Op.equal t x y)) : Sem Value) := by
      cases x <;> first | rfl | exact absurd rfl (hx _ _) | exact absurd rfl (hs _) | exact absurd rfl (hf _ _) | exact absurd rfl (hc _ _ _)
    show (Go.binOp .eql t x y).run P w = _
    rw [this]
    simp [h]
  · have : Go.binOp .neq t x y = (do pure (.bool (!(← Op.equal t x y))) : Sem Value) := by
      cases x <;> first | rfl | exact absurd rfl (hx _ _) | exact absurd rfl (hs _) | exact absurd rfl (hf _ _) | exact absurd rfl (hc _ _ _)
    show (Go.binOp .neq t x y).run P w = _
    rw [this]
    simp [h]

theorem run_guard_plain (neg : Bool) (t : TypeId) (X Y : Operand) (x y : Value) (hi : x ≠ .nilIface ∨ y ≠ .nilIface ∨ X = .const .nilIface ∨ Y = .const .nilIface) (ha : ∀ A, x ≠ .agg A) :
    (eqGuard (eqOp neg) t X Y x y).run P w = .ok () w := by
  cases neg
  · show (eqGuard .eql t X Y x y).run P w = _
    cases x <;> first | (exact absurd rfl (ha _)) | (simp [eqGuard]; done) | skip
    cases y <;> first | (simp [eqGuard]; done) | skip
    rcases hi with h | h | h | h
    · exact absurd rfl h
    · exact absurd rfl h
    · subst h; simp [eqGuard]
    · subst h; simp [eqGuard]
  · show (eqGuard .neq t X Y x y).run P w = _
    cases x <;> first | (exact absurd rfl (ha _)) | (simp [eqGuard]; done) | skip
    cases y <;> first | (simp [eqGuard]; done) | skip
    rcases hi with h | h | h | h
    · exact absurd rfl h
    · exact absurd rfl h
    · subst h; simp [eqGuard]
    · subst h; simp [eqGuard]

theorem eqE_not (k : EK) (q : AVal) : (∀ j n, eqE k (.int j n) q = none) ∧ (∀ s, eqE k (.str s) q = none) ∧ (∀ cs, eqE k (.agg cs) q = none) ∧ eqE k .unk q = none := by
  refine ⟨fun j n => ?_, fun s => ?_, fun cs => ?_, ?_⟩ <;> cases k <;> rfl

theorem so_eq1 (hS : S P G st.h w) (he : EnvRel G e a.tmps) (hg : GlobOk C G) {neg : Bool} {k : EK} {t t' : TypeId} {x y : Operand} {x' y' : Oprd} (ho : o.op = .binOp (eqOp neg) t x y t') (h1 : cOpr x = some x') (h2 : cOpr y = some y')
    (ht : EKOk P t k) (hif : k = .iface → x = .const .nilIface ∨ y = .const .nilIface) (h : stepOp C e (.eq1 k neg x' y') st = some (v, st')) : Out P G st.h w ((execOp a.eval o).run P w) st'.h v := by
  simp only [stepOp] at h
  split at h
  · rename_i p q hp hq
    split at h
    · rename_i r hr
      cases h
      have hx := evO_V he hg h1 hp
      have hy := evO_V he hg h2 hq
      have hrun : (Op.equal t (a.eval x) (a.eval y)).run P w = .ok r w := run_eqE (P := P) (w := w) 9999 t k ht hx hy hr
      refine .same hS (cv := .bool (neg != r)) ?_ (.bool _)
      have hb := run_binOp_eq (P := P) (w := w) neg t (a.eval x) (a.eval y)
      have hgd := run_guard_plain (P := P) (w := w) neg t x y (a.eval x) (a.eval y)
      simp only [execOp, ho, Sem.run_bind]
      generalize a.eval x = X at *
      generalize a.eval y = Y at *
      have hnint : ∀ k n, X ≠ .int k n := fun k n e => by subst e; cases hx <;> simp [eqE_not] at hr
      have hnstr : ∀ s, X ≠ .string s := fun s e => by subst e; cases hx <;> simp [eqE_not] at hr
      have hnfl : ∀ k b, X ≠ .float k b := fun k n e => by subst e; cases hx <;> simp [eqE_not] at hr
      have hncx : ∀ k b c, X ≠ .complex k b c := fun k n c e => by subst e; cases hx <;> simp [eqE_not] at hr
      have hnagg : ∀ A, X ≠ .agg A := fun A e => by subst e; cases hx <;> simp [eqE_not] at hr
      have hnil : X ≠ .nilIface ∨ Y ≠ .nilIface ∨ x = .const .nilIface ∨ y = .const .nilIface := by
        by_cases hk : k = .iface
        · exact .inr (.inr (hif hk))
        · refine .inl fun e => ?_
          subst e
          cases hx
          · cases k <;> first | (exact hk rfl) | (simp [eqE] at hr; done)
          · simp [eqE_not] at hr
      rw [hgd hnil hnagg]
      simp only [Result.andThen_ok]
      rw [hb hnint hnstr hnfl hncx hrun]
      rfl
    · cases h
  · cases h

theorem so_eqAgg (hS : S P G st.h w) (he : EnvRel G e a.tmps) (hg : GlobOk C G) {neg : Bool} {ks : List BK} {t t' : TypeId} {x y : Operand} {x' y' : Oprd} (ho : o.op = .binOp (eqOp neg) t x y t') (h1 : cOpr x = some x') (h2 : cOpr y = some y')
    {fs : Array Field} (ht : P.underlying t = some (.struct fs)) (hgt : P.eqGuardType P.depth t = false) (hk : flatN P 20 t = some ks) (h : stepOp C e (.eqAgg ks neg x' y') st = some (v, st')) : Out P G st.h w ((execOp a.eval o).run P w) st'.h v := by
  simp only [stepOp] at h
  split at h
  · rename_i p q hp hq
    split at h
    · rename_i r hr
      cases h
      obtain ⟨A, hA, vA, _⟩ := (evO_V he hg h1 hp).agg_inv
      obtain ⟨B, hB, vB, _⟩ := (evO_V he hg h2 hq).agg_inv
      have hrun : (Op.equal t (.agg A) (.agg B)).run P w = .ok r w :=
        eq_flat 20 t ks hk 10000 (by omega) w _ _ p q r (.inl ⟨⟨fs, ht⟩, A, rfl, vA⟩) (.inl ⟨⟨fs, ht⟩, B, rfl, vB⟩) hr
      refine .same hS (cv := .bool (neg != r)) ?_ (.bool _)
      simp only [execOp, ho, Sem.run_bind, hA, hB, run_eqGuard_agg w _ _ _ _ _ _ hgt, Result.andThen_ok]
      rw [run_binOp_eq neg t _ _ (by simp) (by simp) (by simp) (by simp) hrun]
      rfl
    · cases h
  · cases h

/-- What the context says of the program. -/
structure CtxOk (P : Program) (C : Ctx) : Prop where
  intType : ∀ t, C.intType t = true → (∃ k, P.underlying t = some (.int k)) ∧ ∃ i, P.info? t = some i ∧ i.comparable = true

theorem so_eqI (hC : CtxOk P C) (hS : S P G st.h w) (he : EnvRel G e a.tmps) (hg : GlobOk C G) {neg : Bool} {t t' : TypeId} {x y : Operand} {x' y' : Oprd} (ho : o.op = .binOp (eqOp neg) t x y t') (h1 : cOpr x = some x') (h2 : cOpr y = some y')
    {ms : Array (String × TypeId)} (ht : P.underlying t = some (.interface ms)) (h : stepOp C e (.eqI neg x' y') st = some (v, st')) : Out P G st.h w ((execOp a.eval o).run P w) st'.h v := by
  have fin : ∀ (X Y : Value) (r : Bool), a.eval x = X → a.eval y = Y → (X ≠ .nilIface ∨ Y ≠ .nilIface) → (∀ A, X ≠ .agg A) → (∀ k n, X ≠ .int k n) → (∀ s, X ≠ .string s) → (∀ k b, X ≠ .float k b) → (∀ k b c, X ≠ .complex k b c) →
      (Op.equal t X Y).run P w = .ok r w → (execOp a.eval o).run P w = .ok (.value (.bool (neg != r))) w := by
    intro X Y r hX hY hn h1 h2 h3 h4 h5 hr
    have hgd := run_guard_plain (P := P) (w := w) neg t x y X Y (hn.elim .inl fun h => .inr (.inl h)) h1
    have hb := run_binOp_eq (P := P) (w := w) neg t X Y h2 h3 h4 h5 hr
    simp only [execOp, ho, Sem.run_bind, hX, hY, hgd, hb, Result.andThen_ok]
    rfl
  simp only [stepOp] at h
  split at h
  · rename_i t1 p t2 q hp hq
    have hx := evO_V he hg h1 hp
    have hy := evO_V he hg h2 hq
    generalize hX : a.eval x = X at hx
    generalize hY : a.eval y = Y at hy
    cases hx with
    | iface _ vx _ hvx => cases hy with
      | iface _ vy _ hvy =>
        split at h
        · rename_i heq; subst heq
          split at h
          · rename_i hint
            obtain ⟨⟨k, hk⟩, i, hi, hcmp⟩ := hC.intType _ hint
            split at h
            · rename_i j m k' n
              split at h
              · rename_i hjk; subst hjk
                cases h
                cases hvx; cases hvy
                refine .same hS (fin _ _ (m == n) hX hY (.inl (by simp)) (by simp) (by simp) (by simp) (by simp) (by simp) ?_) (.bool _)
                show (Op.equalIn (9998 + 1 + 1) t _ _).run P w = _
                rw [Op.equalIn]
                simp only [Sem.run_bind, run_underlying ht, Result.andThen_ok, ne_eq, not_true_eq_false, if_false, typeInfo, run_program, hi, Sem.run_pure, hcmp, Bool.not_true, Bool.false_eq_true]
                exact run_equalIn_int w 9998 t1 j k m n hk
              · cases h
            · cases h
          · cases h
        · rename_i hne
          cases h
          refine .same hS (fin _ _ false hX hY (.inl (by simp)) (by simp) (by simp) (by simp) (by simp) (by simp) ?_) (by simpa using V.bool neg)
          show (Op.equalIn (9999 + 1) t _ _).run P w = _
          rw [Op.equalIn]
          simp only [Sem.run_bind, run_underlying ht, Result.andThen_ok, ne_eq, hne, not_false_eq_true, if_true]
          rfl
  · rename_i hp hq
    have hx := evO_V he hg h1 hp
    have hy := evO_V he hg h2 hq
    generalize hX : a.eval x = X at hx
    generalize hY : a.eval y = Y at hy
    cases hx; cases hy; cases h
    refine .same hS (fin _ _ false hX hY (.inl (by simp)) (by simp) (by simp) (by simp) (by simp) (by simp) ?_) (by simpa using V.bool neg)
    show (Op.equalIn (9999 + 1) t _ _).run P w = _
    rw [Op.equalIn]
    simp only [Sem.run_bind, run_underlying ht, Result.andThen_ok]
    rfl
  · rename_i hp hq
    have hx := evO_V he hg h1 hp
    have hy := evO_V he hg h2 hq
    generalize hX : a.eval x = X at hx
    generalize hY : a.eval y = Y at hy
    cases hx; cases hy; cases h
    refine .same hS (fin _ _ false hX hY (.inr (by simp)) (by simp) (by simp) (by simp) (by simp) (by simp) ?_) (by simpa using V.bool neg)
    show (Op.equalIn (9999 + 1) t _ _).run P w = _
    rw [Op.equalIn]
    simp only [Sem.run_bind, run_underlying ht, Result.andThen_ok]
    rfl
  · cases h

end Go.Shadow

namespace Go.Shadow
open Go

variable {P : Program} {C : Ctx} {G : Rel} {e : Env} {a : Act} {st st' : St} {w : World} {v : AVal} {o : Oper}

/-! ### Bytes and characters -/

theorem get_byteAt (s : ByteArray) (i k : Nat) : (s.get! (i + (k + 1))).toNat = byteAt (s.data.toList.drop (i + 1)) k := by
  unfold byteAt
  rw [List.getElem?_drop, show i + 1 + k = i + (k + 1) by omega]
  obtain ⟨⟨l⟩⟩ := s
  simp only [ByteArray.get!]
  rcases Nat.lt_or_ge (i + (k + 1)) l.length with h | h
  · simp [h]
  · simp [h]; rfl

theorem cont_byteAt (s : ByteArray) (i k : Nat) : (decide (i + (k + 1) < s.size) && (s.get! (i + (k + 1))).toNat / 64 == 2) = (byteAt (s.data.toList.drop (i + 1)) k / 64 == 2) := by
  rw [get_byteAt]
  rcases Nat.lt_or_ge (i + (k + 1)) s.size with h | h
  · simp [h]
  · have : byteAt (s.data.toList.drop (i + 1)) k = 0 := by
      unfold byteAt
      rw [List.getElem?_drop, List.getElem?_eq_none (by have : s.data.toList.length = s.size := rfl; omega)]
    simp [this]

theorem decode_eq (s : ByteArray) (i : Nat) (hi : i < s.size) : Utf8.decode s i = decode1 (s.data.toList.drop i) := by
  have hlen : s.data.toList.length = s.size := rfl
  have hd : s.data.toList.drop i = s.data.toList[i] :: s.data.toList.drop (i + 1) := List.drop_eq_getElem_cons (by omega)
  have hget0 : (s.get! i).toNat = (s.data.toList[i]).toNat := by
    obtain ⟨⟨l⟩⟩ := s
    simp only [ByteArray.get!]
    have : i < l.length := hi
    simp [this]
  have g1 := get_byteAt s i 0
  have g2 := get_byteAt s i 1
  have g3 := get_byteAt s i 2
  have c1 := cont_byteAt s i 0
  have c2 := cont_byteAt s i 1
  have c3 := cont_byteAt s i 2
  rw [hd]
  unfold Utf8.decode decode1
  simp only [Nat.zero_add, Nat.reduceAdd] at g1 g2 g3 c1 c2 c3
  simp only [Nat.add_zero, hget0, c1, c2, c3]
  simp only [g1, g2, g3]
  rfl

theorem ite_snd {α : Type} {c : Prop} [Decidable c] {x y : α × Nat} (hx : 1 ≤ x.2) (hy : 1 ≤ y.2) : 1 ≤ (if c then x else y).2 := by split <;> assumption

theorem decode_pos (s : List UInt8) : 1 ≤ (decode1 s).2 := by
  unfold decode1
  cases s with
  | nil => exact Nat.le_refl _
  | cons a s => exact ite_snd (by simp) (ite_snd (ite_snd (by simp) (by simp)) (ite_snd (ite_snd (by simp) (by simp)) (ite_snd (ite_snd (by simp) (by simp)) (by simp))))

theorem str_get (s : ByteArray) (i : Nat) : s[i]? = s.data.toList[i]? := by
  rcases Nat.lt_or_ge i s.size with h | h
  · rw [ByteArray.getElem?_lt' s i h, List.getElem?_eq_getElem h]
    rfl
  · rw [ByteArray.getElem?_ge' s i (by omega), List.getElem?_eq_none h]

theorem so_convInt (hS : S P G st.h w) (he : EnvRel G e a.tmps) (hg : GlobOk C G) {s d : TypeId} {x : Operand} {x' : Oprd} {j k : IntKind} (ho : o.op = .convert s d x) (h1 : cOpr x = some x')
    (hs : P.underlying s = some (.int j)) (hd : P.underlying d = some (.int k)) (h : stepOp C e (.convInt k x') st = some (v, st')) : Out P G st.h w ((execOp a.eval o).run P w) st'.h v := by
  simp only [stepOp] at h
  split at h
  · rename_i hp; cases h
    have hx := evO_V he hg h1 hp
    generalize hX : a.eval x = X at hx
    cases hx
    exact .same hS (cv := .int k _) (by simp [execOp, ho, hX, convert, run_underlying hs, run_underlying hd, Conv.intToInt]) (.int _ _)
  · cases h

theorem so_intStr (hS : S P G st.h w) (he : EnvRel G e a.tmps) (hg : GlobOk C G) {s d : TypeId} {x : Operand} {x' : Oprd} {j : IntKind} (ho : o.op = .convert s d x) (h1 : cOpr x = some x')
    (hs : P.underlying s = some (.int j)) (hd : P.underlying d = some .string) (h : stepOp C e (.intStr x') st = some (v, st')) : Out P G st.h w ((execOp a.eval o).run P w) st'.h v := by
  simp only [stepOp] at h
  split at h
  · rename_i hp; cases h
    have hx := evO_V he hg h1 hp
    generalize hX : a.eval x = X at hx
    cases hx
    exact .same hS (cv := .string _) (by simp [execOp, ho, hX, convert, run_underlying hs, run_underlying hd, Conv.intToString]) (.str _)
  · cases h

theorem so_strStr (hS : S P G st.h w) (he : EnvRel G e a.tmps) (hg : GlobOk C G) {s d : TypeId} {x : Operand} {x' : Oprd} (ho : o.op = .convert s d x) (h1 : cOpr x = some x')
    (hs : P.underlying s = some .string) (hd : P.underlying d = some .string) (hv : ∀ u, evO C e x' = some u → ∃ l, u = .str l) (h : stepOp C e (.mov x') st = some (v, st')) : Out P G st.h w ((execOp a.eval o).run P w) st'.h v := by
  simp only [stepOp, Option.map_eq_some_iff] at h
  obtain ⟨u, hu, h⟩ := h
  obtain ⟨l, rfl⟩ := hv u hu
  cases h
  have hx := evO_V he hg h1 hu
  generalize hX : a.eval x = X at hx
  cases hx
  exact .same hS (cv := .string _) (by simp [execOp, ho, hX, convert, run_underlying hs, run_underlying hd]) (.str _)

theorem bytesOfCells_vals {G : Rel} : ∀ (vs : List Value) (cs : List AVal) (s : List UInt8), Vs G vs cs → bytesOfCells cs = some s → ∃ ns : List Int, vs = ns.map (Value.int .u8) ∧ s = ns.map fun n => UInt8.ofNat n.toNat
  | vs, [], s, hv, h => by
    simp [bytesOfCells] at h; subst h
    cases vs with
    | nil => exact ⟨[], rfl, rfl⟩
    | cons v vs => exact absurd hv.1 (by simp)
  | [], c :: cs, s, hv, h => absurd hv.1 (by simp)
  | v :: vs, c :: cs, s, hv, h => by
    cases c with
    | int k n =>
      cases k <;> simp only [bytesOfCells] at h <;> try (cases h; done)
      split at h
      · rename_i s' hs'
        cases h
        obtain ⟨ns, rfl, rfl⟩ := bytesOfCells_vals vs cs s' hv.tail hs'
        have := hv.head
        cases this
        exact ⟨n :: ns, rfl, rfl⟩
      · cases h
    | _ => simp [bytesOfCells] at h

theorem foldl_push_data : ∀ (ns : List Int) (s : ByteArray), (ns.foldl (fun r n => r.push (UInt8.ofNat n.toNat)) s).data.toList = s.data.toList ++ ns.map fun n => UInt8.ofNat n.toNat
  | [], s => by simp
  | n :: ns, s => by
    rw [List.foldl_cons, foldl_push_data ns]
    obtain ⟨⟨l⟩⟩ := s
    simp [ByteArray.push]

theorem so_bytesStr (hS : S P G st.h w) (he : EnvRel G e a.tmps) (hg : GlobOk C G) {s d el : TypeId} {x : Operand} {x' : Oprd} (ho : o.op = .convert s d x) (h1 : cOpr x = some x')
    (hs : P.underlying s = some (.slice el)) (hel : P.underlying el = some (.int .u8)) (hd : P.underlying d = some .string) (h : stepOp C e (.bytesStr x') st = some (v, st')) : OutS P G w ((execOp a.eval o).run P w) v := by
  simp only [stepOp] at h
  split at h
  · rename_i u hu
    split at h
    · rename_i cs hcs
      simp only [Option.map_eq_some_iff] at h
      obtain ⟨l, hl, h⟩ := h
      cases h
      have hx := evO_V he hg h1 hu
      rcases sliceCells_reads hS hx hcs with ⟨hX, _, rfl⟩ | ⟨ad, len, cap, hX, _, hr, hlen⟩
      · simp [bytesOfCells] at hl; subst hl
        refine .same hS (cv := .string .empty) ?_ (.str .empty)
        simp [execOp, ho, hX, convert, run_underlying hs, run_underlying hd, run_underlying hel, Conv.bytesToString]
      · obtain ⟨A, hA, hV, _⟩ := run_reads (P := P) hr
        rw [hlen, Nat.mul_one] at hA
        obtain ⟨ns, hns, rfl⟩ := bytesOfCells_vals A.toList cs l hV hl
        have hA' : A = (ns.map (Value.int .u8)).toArray := by rw [← hns]
        rw [hA'] at hA
        have hrun := run_bytesToString (P := P) w ad len cap ns hA
        refine .same hS (cv := .string (ns.foldl (fun r n => r.push (UInt8.ofNat n.toNat)) ByteArray.empty)) ?_ ?_
        · simp [execOp, ho, hX, convert, run_underlying hs, run_underlying hd, run_underlying hel, hrun]
        · have := V.str (G := G) (ns.foldl (fun r n => r.push (UInt8.ofNat n.toNat)) ByteArray.empty)
          rwa [foldl_push_data] at this
    · cases h
  · cases h

end Go.Shadow

namespace Go.Shadow
open Go

variable {P : Program} {C : Ctx} {G : Rel} {e : Env} {a : Act} {st st' : St} {w : World} {v : AVal} {o : Oper}

/-! ### New blocks -/

theorem Same.alloc (w : World) (O : Obj) : Same w (w.alloc O) := by
  refine ⟨by simp, fun cb hc => ?_, rfl, rfl, rfl⟩
  simp [World.alloc, -World.alloc_eq, Array.getElem?_push, Nat.ne_of_lt hc]
theorem Same.drew (w : World) : Same w w.drew := ⟨Nat.le_refl _, fun _ _ => rfl, rfl, rfl, rfl⟩
theorem Same.trans {w w' w'' : World} (h : Same w w') (h' : Same w' w'') : Same w w'' :=
  ⟨Nat.le_trans h.size h'.size, fun cb hc => (h'.old cb (Nat.lt_of_lt_of_le hc h.size)).trans (h.old cb hc), h'.tape.trans h.tape, h'.os.trans h.os, h'.output.trans h.output⟩

theorem alloc_at (w : World) (O : Obj) : (w.alloc O).heap[w.heap.size]? = some O := by simp [World.alloc, -World.alloc_eq]

/-- What is handed on behind a new row. -/
theorem Out.row {P : Program} {G : Rel} {st : St} {w w' : World} (hS : S P G st.h w) {r : Result Next} {cv : Value} {a : AVal} (n : Nat) (cs : List AVal) (A : Array Value) (el : TypeId) (fr : Nat × Nat)
    (hw : Same w w') (hA : w'.heap[w.heap.size]? = some (.cells A el fr)) (hn : cs.length = n) (hle : n ≤ A.size) (hV : Vs G (A.toList.take n) cs) (h1 : ∀ v ∈ A.toList, v.oneCell' = true)
    (hf : ∀ j, j < A.size → (decide (fr.1 ≤ j) && decide (j < fr.2)) = false) (hr : r = .ok (.value cv) w') (hv : V (G.add n ⟨w.heap.size, A.size⟩) cv a) :
    Out P G st.h w r (st.new (.row n cs)).h a := by
  obtain ⟨h2, h3⟩ := hS.pushRow cs w.heap.size A el fr n hn hw (Nat.le_refl _) hA hle hV h1 hf
  exact ⟨_, w', cv, .inl hr, hv, h2, h3⟩

theorem zeroCells_inv {t : TypeId} {z : List AVal} (h : zeroCellsOf P t = some z) : ∃ i v, P.info? t = some i ∧ i.zero = some v ∧ (∀ G, Vs G v.cells.toList z) ∧ ∀ u ∈ v.cells.toList, u.oneCell' = true := by
  unfold zeroCellsOf at h
  split at h
  · rename_i i hi
    split at h
    · rename_i v hz
      split at h
      · rename_i as has
        split at h
        · rename_i hall
          cases h
          refine ⟨i, v, hi, hz, fun G => ofValues_Vs G _ _ has, (ofValues_Vs ⟨fun _ _ => none, fun _ _ => none, 0⟩ _ _ has).one hall⟩
        · cases h
      · cases h
    · cases h
  · cases h

theorem so_alloc (hS : S P G st.h w) {t : TypeId} {z : List AVal} (ho : o.op = .alloc t) (hz : zeroCellsOf P t = some z) (h : stepOp C e (.alloc z) st = some (v, st')) :
    Out P G st.h w ((execOp a.eval o).run P w) st'.h v := by
  simp only [stepOp, Option.some.injEq] at h
  cases h
  obtain ⟨i, zv, hi, hz, hV, h1⟩ := zeroCells_inv hz
  have hlen : z.length = zv.cells.size := by have := (hV G).1; simpa using this.symm
  refine Out.row hS (w' := w.alloc (.cells zv.cells t)) (cv := .pointer (some ⟨w.heap.size, 0, none⟩)) z.length z zv.cells t (0, 0) (Same.alloc w _) (alloc_at w _) rfl (by omega) ?_ h1 (fun j hj => by simp) ?_ ?_
  · have := (hV G).take z.length
    simpa using this
  · simp [execOp, ho, Instr.alloc, zeroValue, typeInfo, hi, hz, newVar, newRow]
  · rw [hS.len.symm]
    exact .ptr G.n z.length 0 ⟨w.heap.size, zv.cells.size⟩ (Nat.lt_succ_self _) (Rel.add_pl _ _ _)

theorem so_box (hS : S P G st.h w) (he : EnvRel G e a.tmps) (hg : GlobOk C G) {t : TypeId} {x : Operand} {x' : Oprd} (ho : o.op = .box t x) (hx : cOpr x = some x') (h : stepOp C e (.box x') st = some (v, st')) :
    Out P G st.h w ((execOp a.eval o).run P w) st'.h v := by
  simp only [stepOp] at h
  split at h
  · rename_i u hu
    split at h
    · cases h
    · rename_i hs
      cases h
      have hs : u.storable = true := by simpa using hs
      have hV := evO_V he hg hx hu
      have hc := hV.cells (storable_unk hs)
      have h1 := hV.storable hs
      have hlen : u.cells.length = (a.eval x).cells.size := by have := hc.1; simpa using this.symm
      refine Out.row hS (w' := w.alloc (.cells (a.eval x).cells t)) (cv := .pointer (some ⟨w.heap.size, 0, none⟩)) u.cells.length u.cells (a.eval x).cells t (0, 0) (Same.alloc w _) (alloc_at w _) rfl (by omega) ?_ h1 (fun j hj => by simp) ?_ ?_
      · have := hc.take u.cells.length
        simpa using this
      · simp [execOp, ho, Instr.box, newVar, newRow]
      · rw [hS.len.symm]
        exact .ptr G.n u.cells.length 0 ⟨w.heap.size, (a.eval x).cells.size⟩ (Nat.lt_succ_self _) (Rel.add_pl _ _ _)
  · cases h

theorem byteCells_V (G : Rel) (s : ByteArray) : Vs G (s.data.toList.map fun b => Value.int .u8 b.toNat) (s.data.toList.map fun (b : UInt8) => AVal.int .u8 b.toNat) := by
  refine ⟨by simp, fun j v a e e' => ?_⟩
  simp only [List.getElem?_map, Option.map_eq_some_iff] at e e'
  obtain ⟨b, hb, rfl⟩ := e
  obtain ⟨c, hc, rfl⟩ := e'
  rw [hb] at hc; cases hc
  exact .int _ _

theorem Same.bytes (w : World) (el : TypeId) (s : ByteArray) : Same w (Lib.bytesWorld w el s) :=
  ⟨by rw [Lib.bytesWorld_size]; omega, fun cb hc => Lib.bytesWorld_at_old w el s cb hc, rfl, rfl, rfl⟩

theorem bytesCells_size (w : World) (el : TypeId) (s : ByteArray) : (Lib.bytesCells w el s).size = grownCap w s.size 0 el := by
  have := grownCap_ge w s.size 0 el
  unfold Lib.bytesCells
  simp only [Array.size_append, Array.size_map, Array.size_replicate]
  have h2 : s.data.size = s.size := rfl
  omega

theorem so_strBytes (hS : S P G st.h w) (he : EnvRel G e a.tmps) (hg : GlobOk C G) {s d el : TypeId} {x : Operand} {x' : Oprd} (ho : o.op = .convert s d x) (h1 : cOpr x = some x')
    (hs : P.underlying s = some .string) (hd : P.underlying d = some (.slice el)) (hel : P.underlying el = some (.int .u8)) (h : stepOp C e (.strBytes x') st = some (v, st')) : Out P G st.h w ((execOp a.eval o).run P w) st'.h v := by
  simp only [stepOp] at h
  split at h
  · rename_i l hl
    simp only [Option.some.injEq, newRowA] at h
    cases h
    have hX := evO_V he hg h1 hl
    generalize hx : a.eval x = X at hX
    cases hX with
    | str s' =>
      have hsz := bytesCells_size w el s'
      have hge := grownCap_ge w s'.size 0 el
      have hl' : s'.data.toList.length = s'.size := rfl
      refine Out.row hS (w' := Lib.bytesWorld w el s') (cv := .slice (some ⟨w.heap.size, 0, none⟩) s'.size (grownCap w s'.size 0 el)) _ _ (Lib.bytesCells w el s') el (_, _) (Same.bytes w el s') (Lib.bytesWorld_at_new w el s') (by simp) (by rw [hsz, hl', Nat.mul_one]; exact hge) ?_ ?_ (fun j hj => ?_) ?_ ?_
      · have : (Lib.bytesCells w el s').toList.take (s'.data.toList.length * 1) = s'.data.toList.map fun b => Value.int .u8 b.toNat := by
          rw [Nat.mul_one]
          unfold Lib.bytesCells
          simp
        rw [this]
        exact byteCells_V G s'
      · intro v hv
        unfold Lib.bytesCells at hv
        simp only [Array.toList_append, Array.toList_map, Array.toList_replicate, List.mem_append, List.mem_map, List.mem_replicate] at hv
        rcases hv with ⟨b, _, rfl⟩ | ⟨_, rfl⟩ <;> rfl
      · simp; omega
      · simp only [execOp, ho, Sem.run_bind, hx, Lib.run_convert_string_bytes (P := P) w s d el s' hs hd hel]
        rfl
      · rw [hS.len.symm]
        exact .mslice G.n _ 0 _ 1 _ false ⟨w.heap.size, _⟩ ⟨w.heap.size, 0, none⟩ _ (Nat.lt_succ_self _) (Rel.add_pl _ _ _) rfl rfl (.inr rfl) (by rw [hl']; exact hge) (by exact hge) (by simp) (by simp only; rw [hsz]; omega)
  · cases h

end Go.Shadow
