/- ModalShapes of the given program answers true Part 1 of 10. -/
import GoSem.Dispatch
import GoSem.Machine.Return
import Derived.RangeFuncCalls
import Derived.OrdersIn
import Derived.LoopNIn
import Derived.Laws.CopyRow
import Derived.Below
import Derived.Laws.StructEq
import Derived.IntWalk
import Derived.Laws.MakeOwn
import Derived.CallsIn
import Derived.RangeFuncLeaves
import Derived.RangeFuncRecord
/- The reference semantics S: a deterministic interpreter over the loaded program's code, on abstract values and an abstract heap. This text: definitions only. -/
namespace Go.Sx

/-! ### Tables keyed by numbers -/
inductive Tbl (α : Type) where
  | leaf
  | node (v : Option α) (l r : Tbl α)
  deriving Inhabited

namespace Tbl
variable {α : Type}
def get : Tbl α → Nat → Option α
  | .leaf, _ => none
  | .node v l r, k => bif Nat.beq k 0 then v else bif Nat.beq (k % 2) 1 then l.get ((k - 1) / 2) else r.get ((k - 1) / 2)
def setF : Nat → Tbl α → Nat → α → Tbl α
  | 0, t, _, _ => t
  | n + 1, t, k, x => match t with
    | .leaf => bif Nat.beq k 0 then .node (some x) .leaf .leaf
        else bif Nat.beq (k % 2) 1 then .node none (setF n .leaf ((k - 1) / 2) x) .leaf else .node none .leaf (setF n .leaf ((k - 1) / 2) x)
    | .node v l r => bif Nat.beq k 0 then .node (some x) l r
        else bif Nat.beq (k % 2) 1 then .node v (setF n l ((k - 1) / 2) x) r else .node v l (setF n r ((k - 1) / 2) x)
def set (t : Tbl α) (k : Nat) (x : α) : Tbl α := setF (k + 1) t k x
end Tbl

/-! ### Values -/
/-- An abstract value. Blocks are abstract numbers. 'slice b o n c q': q = 0: the capacity is exactly c; q > 0 (the element's size): it is at least c. 'emp z': a slice of no elements, not nil; z: of no capacity. -/
inductive AV where
  | int (k : IntKind) (n : Int)
  | bool (b : Bool)
  | str (s : ByteArray)
  | ptr (b o : Nat)
  | nilp
  | slice (b o n c q : Nat)
  | nils
  | emp (z : Bool)
  | func (f : Nat) (first caps : List AV)
  | yld (l : Nat)
  | nilf
  | agg (cs : List AV)
  | tup (vs : List AV)
  | undef
  deriving Inhabited

namespace AV
def cells : AV → List AV
  | .agg cs => cs
  | v => [v]
/-- May lie in a cell. -/
def isCell : AV → Bool
  | .agg _ | .tup _ | .undef => false
  | _ => true
mutual
def ids : AV → List Nat
  | .ptr b _ => [b]
  | .slice b _ _ _ _ => [b]
  | .func _ fs caps => idsL fs ++ idsL caps
  | .yld l => [l]
  | .agg cs => idsL cs
  | .tup vs => idsL vs
  | _ => []
def idsL : List AV → List Nat
  | [] => []
  | v :: l => ids v ++ idsL l
end
mutual
def ren (ρ : Nat → Nat) : AV → AV
  | .ptr b o => .ptr (ρ b) o
  | .slice b o n c q => .slice (ρ b) o n c q
  | .func f fs caps => .func f (renL ρ fs) (renL ρ caps)
  | .yld l => .yld (ρ l)
  | .agg cs => .agg (renL ρ cs)
  | .tup vs => .tup (renL ρ vs)
  | v => v
def renL (ρ : Nat → Nat) : List AV → List AV
  | [] => []
  | v :: l => ren ρ v :: renL ρ l
end
mutual
/-- A constant of the program, with no address in it. -/
def ofV : Value → Option AV
  | .int k n => some (.int k n)
  | .bool b => some (.bool b)
  | .string s => some (.str s)
  | .pointer none => some .nilp
  | .slice none 0 0 => some .nils
  | .nilFunc => some .nilf
  | .agg ⟨cs⟩ => (ofVL cs).map .agg
  | _ => none
def ofVL : List Value → Option (List AV)
  | [] => some []
  | v :: l => match ofV v, ofVL l with
    | some a, some r => some (a :: r)
    | _, _ => none
end
end AV

/-! ### Types -/
inductive TD where
  | struct (fields : List (Nat × Nat))      -- offset, type
  | array (n e : Nat)
  | slice (e : Nat)
  | string
  | other
  deriving Inhabited
structure TyI where
  size : Nat
  bytes : Nat
  zero : AV
  td : TD
  flat : Bool      -- '==' compares cell by cell
  deriving Inhabited
def TD.isAgg : TD → Bool
  | .struct _ | .array _ _ => true
  | _ => false
def TyI.isAgg (t : TyI) : Bool := t.td.isAgg

/-! ### The heap -/
structure ALoop where
  st : Nat
  jump : Option Code
  T : Tbl AV
  ps : Array Tmp
  asg : Code
  body : Code
inductive AObj where
  | cells (cs : List AV)
  | loop (l : ALoop)
  | dead
  deriving Inhabited

structure Mem where
  n : Nat
  t : Tbl AObj
def Mem.nil : Mem := ⟨0, .leaf⟩
def Mem.push (M : Mem) (o : AObj) : Mem := ⟨M.n + 1, M.t.set M.n o⟩
def Mem.put (M : Mem) (i : Nat) (o : AObj) : Mem := ⟨M.n, M.t.set i o⟩
def Mem.get (M : Mem) (i : Nat) : Option AObj := bif Nat.blt i M.n then M.t.get i else none
def Mem.pushAll (M : Mem) : List AObj → Mem
  | [] => M
  | o :: l => (M.push o).pushAll l

structure Env where
  ro : Nat → Option (List AV)
  m0 : Nat
  rnd : Bool      -- in a round of a range over a function
def objCells : Option AObj → Option (List AV)
  | some (.cells cs) => some cs
  | _ => none
def cellsOf (E : Env) (M : Mem) (b : Nat) : Option (List AV) :=
  bif Nat.blt b E.m0 then E.ro b else objCells (M.get (b - E.m0))
def rdIn (o n : Nat) : Option (List AV) → Option (List AV)
  | some cs => bif Nat.ble (o + n) cs.length then some ((cs.drop o).take n) else none
  | none => none
def rd (E : Env) (M : Mem) (b o n : Nat) : Option (List AV) := rdIn o n (cellsOf E M b)
def splice (cs : List AV) (o : Nat) (vs : List AV) : List AV := cs.take o ++ vs ++ cs.drop (o + vs.length)
def wrIn (M : Mem) (i o : Nat) (vs : List AV) : Option (List AV) → Option Mem
  | some cs => bif Nat.ble (o + vs.length) cs.length then (bif vs.all AV.isCell then some (M.put i (.cells (splice cs o vs))) else none) else none
  | none => none
def wrc (E : Env) (M : Mem) (b o : Nat) (vs : List AV) : Option Mem :=
  bif Nat.blt b E.m0 then none else wrIn M (b - E.m0) o vs (objCells (M.get (b - E.m0)))

/-! ### Whole numbers -/
def in64 : Int → Bool
  | .ofNat m => Nat.blt m 9223372036854775808
  | .negSucc m => Nat.blt m 9223372036854775808
def wr (k : IntKind) (n : Int) : Int := match k with
  | .i64 => bif in64 n then n else IntKind.i64.wrap n
  | k => k.wrap n
def kindEq : IntKind → IntKind → Bool
  | .i64, .i64 => true
  | .i8, .i8 | .i16, .i16 | .i32, .i32 | .u8, .u8 | .u16, .u16 | .u32, .u32 | .u64, .u64 => true
  | _, _ => false
def quoA (k : IntKind) (x y : Int) : Option AV := bif decide (y = 0) then none else some (.int k (wr k (x.tdiv y)))
def remA (k : IntKind) (x y : Int) : Option AV := bif decide (y = 0) then none else some (.int k (x.tmod y))
def bitsA (k : IntKind) (r : BitVec k.bits) : Option AV := some (.int k (wr k (r.toNat : Int)))
def shlA (k : IntKind) (x y : Int) : Option AV := bif decide (y < 0) then none else some (.int k (wr k (x * 2 ^ (min y.toNat k.bits))))
def shrA (k : IntKind) (x y : Int) : Option AV := bif decide (y < 0) then none else some (.int k (x.fdiv (2 ^ (min y.toNat k.bits))))
def arith (op : BinOp) (k : IntKind) (x y : Int) : Option AV := match op with
  | .add => some (.int k (wr k (x + y)))
  | .sub => some (.int k (wr k (x - y)))
  | .mul => some (.int k (wr k (x * y)))
  | .quo => quoA k x y
  | .rem => remA k x y
  | .eql => some (.bool (decide (x = y)))
  | .neq => some (.bool (!decide (x = y)))
  | .lss => some (.bool (decide (x < y)))
  | .leq => some (.bool (decide (x ≤ y)))
  | .gtr => some (.bool (decide (y < x)))
  | .geq => some (.bool (decide (y ≤ x)))
  | .and => bitsA k (BitVec.ofInt k.bits x &&& BitVec.ofInt k.bits y)
  | .or => bitsA k (BitVec.ofInt k.bits x ||| BitVec.ofInt k.bits y)
  | .xor => bitsA k (BitVec.ofInt k.bits x ^^^ BitVec.ofInt k.bits y)
  | _ => none
/-- '==' of two cells of plain kinds. -/
def eqCell : AV → AV → Option Bool
  | .int k a, .int k' b => bif kindEq k k' then some (decide (a = b)) else none
  | .bool a, .bool b => some (a == b)
  | _, _ => none
def and? : Option Bool → Option Bool → Option Bool
  | some x, some y => some (x && y)
  | _, _ => none
def eqCells : List AV → List AV → Option Bool
  | [], [] => some true
  | a :: l, b :: r => and? (eqCell a b) (eqCells l r)
  | _, _ => none
def isNilEq : AV → AV → Option Bool
  | .nils, .nils | .nilp, .nilp | .nilf, .nilf => some true
  | .emp _, .nils | .nils, .emp _ | .slice .., .nils | .nils, .slice .. | .ptr .., .nilp | .nilp, .ptr .. | .func .., .nilf | .nilf, .func .. => some false
  | _, _ => none
def eqRes (op : BinOp) : Option Bool → Option AV
  | some r => (match op with
    | .eql => some (.bool r)
    | .neq => some (.bool (!r))
    | _ => none)
  | none => none
def intBin (op : BinOp) (k k' : IntKind) (a b : Int) : Option AV := match op with
  | .shl => shlA k a b
  | .shr => shrA k a b
  | op => bif kindEq k k' then arith op k a b else none
def kindOf : AV → Nat
  | .int _ _ => 0
  | .bool _ => 1
  | _ => 2
/-- Cell by cell of one kind. -/
def likeL : List AV → List AV → Bool
  | [], [] => true
  | a :: l, b :: r => bif Nat.beq (kindOf a) (kindOf b) then likeL l r else false
  | _, _ => false
def aggBin (op : BinOp) (xs ys : List AV) : Option TyI → Option AV
  | some i => bif i.flat && likeL i.zero.cells xs && likeL i.zero.cells ys then eqRes op (eqCells xs ys) else none
  | none => none
def boolBin (op : BinOp) (a b : Bool) : Option TyI → Option AV
  | some i => (match i.zero with
    | .bool _ => eqRes op (some (a == b))
    | _ => none)
  | none => none
def isSlV : AV → Bool
  | .nils | .emp _ | .slice .. => true
  | _ => false
def isPtrV : AV → Bool
  | .nilp | .ptr .. => true
  | _ => false
def isFnV : AV → Bool
  | .nilf | .func .. => true
  | _ => false
def nilBin (op : BinOp) (x y : AV) : Option TyI → Option AV
  | some i => (match i.zero with
    | .nils => bif isSlV x then eqRes op (isNilEq x y) else none
    | .nilp => bif isPtrV x then eqRes op (isNilEq x y) else none
    | .nilf => bif isFnV x then eqRes op (isNilEq x y) else none
    | _ => none)
  | none => none
def bin (ty : Nat → Option TyI) (op : BinOp) (t : Nat) (x y : AV) : Option AV :=
  match x, y with
  | .int k a, .int k' b => intBin op k k' a b
  | .bool a, .bool b => boolBin op a b (ty t)
  | .agg xs, .agg ys => aggBin op xs ys (ty t)
  | x, y => nilBin op x y (ty t)
def un (op : UnOp) (x : AV) : Option AV := match op, x with
  | .neg, .int k n => some (.int k (wr k (0 - n)))
  | .not, .bool b => some (.bool (!b))
  | _, _ => none

/-! ### Operands -/
def orUndef : Option AV → AV
  | some v => v
  | none => .undef
def opd (T : Tbl AV) : Operand → Option AV
  | .tmp t => some (orUndef (T.get t))
  | .const v => AV.ofV v
  | .func f => some (.func f [] [])
  | .global _ => none
def cons? : Option AV → Option (List AV) → Option (List AV)
  | some a, some r => some (a :: r)
  | _, _ => none
def opds (T : Tbl AV) : List Operand → Option (List AV)
  | [] => some []
  | x :: l => cons? (opd T x) (opds T l)
def nat? : AV → Option Nat
  | .int _ (.ofNat n) => some n
  | _ => none
def natO : Option AV → Option Nat
  | some v => nat? v
  | none => none

/-! ### Operations that call nothing -/
abbrev R := Option (AV × Mem)
def d1 (M : Mem) : Option AV → R
  | some v => some (v, M)
  | none => none
def isCells : AV → Bool
  | .agg cs => cs.all AV.isCell
  | .tup _ | .undef => false
  | _ => true
def newB (E : Env) (M : Mem) (cs : List AV) : Mem := M.push (.cells cs)
def dBox (E : Env) (M : Mem) : Option AV → R
  | some v => bif isCells v then some (.ptr (E.m0 + M.n) 0, newB E M v.cells) else none
  | none => none
def zeroO : Option TyI → Option AV
  | some i => some i.zero
  | none => none
/-- Fills the parts of a struct, an array, a slice. -/
def fill1 (cs : List AV) (x : Option AV) : Option (Nat × Nat) → Option (List AV)
  | some (o, s) => (match x with
    | some v => bif Nat.beq v.cells.length s && Nat.ble (o + s) cs.length then some (splice cs o v.cells) else none
    | none => none)
  | none => none
def fillA (place : Nat → Option (Nat × Nat)) (T : Tbl AV) : List (Nat × Operand) → Option (List AV) → Option (List AV)
  | _, none => none
  | [], some cs => some cs
  | (i, x) :: rest, some cs => fillA place T rest (fill1 cs (opd T x) (place i))
def repl (n : Nat) (cs : List AV) : List AV := match n with
  | 0 => []
  | n + 1 => cs ++ repl n cs
def szO (o : Nat) : Option TyI → Option (Nat × Nat)
  | some j => some (o, j.size)
  | none => none
def fieldAt (fs : List (Nat × Nat)) (f : Nat) : Option (Nat × Nat) := match fs, f with
  | [], _ => none
  | x :: _, 0 => some x
  | _ :: l, f + 1 => fieldAt l f
def placeF (ty : Nat → Option TyI) (fs : List (Nat × Nat)) (i : Nat) : Option (Nat × Nat) := match fieldAt fs i with
  | some (o, t) => szO o (ty t)
  | none => none
def placeE (s i : Nat) : Option (Nat × Nat) := some (i * s, s)
def aggR (M : Mem) : Option (List AV) → R
  | some cs => some (.agg cs, M)
  | none => none
def dBuildA (T : Tbl AV) (M : Mem) (z : AV) (parts : List (Nat × Operand)) : Option TyI → R
  | some j => aggR M (fillA (placeE j.size) T parts (some z.cells))
  | none => none
def dBuild (ty : Nat → Option TyI) (T : Tbl AV) (M : Mem) (parts : List (Nat × Operand)) : Option TyI → R
  | some i => (match i.td with
    | .struct fs => aggR M (fillA (placeF ty fs) T parts (some i.zero.cells))
    | .array _ e => dBuildA T M i.zero parts (ty e)
    | _ => none)
  | none => none
def elemTy (ty : Nat → Option TyI) : Option TyI → Option TyI
  | some i => (match i.td with
    | .slice e => ty e
    | _ => none)
  | none => none
def sliceR (E : Env) (M : Mem) (n m : Nat) : Option (List AV) → R
  | some cs => bif cs.all AV.isCell then some (.slice (E.m0 + M.n) 0 n m 0, newB E M cs) else none
  | none => none
def dBuildSlice (E : Env) (T : Tbl AV) (M : Mem) (len : Nat) (parts : List (Nat × Operand)) : Option TyI → R
  | some j => bif Nat.ble (len * j.size) 65536 && Nat.beq j.zero.cells.length j.size then sliceR E M len len (fillA (placeE j.size) T parts (some (repl len j.zero.cells))) else none
  | none => none
def oneR (M : Mem) : Option (List AV) → R
  | some [v] => some (v, M)
  | _ => none
def dLoad (E : Env) (M : Mem) (x : Option AV) : Option TyI → R
  | some i => (match x with
    | some (.ptr b o) => bif i.isAgg then aggR M (rd E M b o i.size) else oneR M (rd E M b o 1)
    | _ => none)
  | none => none
def undefR : Option Mem → R
  | some M => some (.undef, M)
  | none => none
def dStore (E : Env) (M : Mem) (a x : Option AV) : Option TyI → R
  | some i => (match a with
    | some (.ptr b o) => (match x with
      | some v => bif Nat.beq v.cells.length i.size then undefR (wrc E M b o v.cells) else none
      | none => none)
    | _ => none)
  | none => none
def dNil (M : Mem) : Option AV → R
  | some (.ptr b o) => some (.ptr b o, M)
  | some (.func f fs c) => some (.func f fs c, M)
  | _ => none
def dBin (ty : Nat → Option TyI) (M : Mem) (op : BinOp) (t : Nat) : Option AV → Option AV → R
  | some a, some b => d1 M (bin ty op t a b)
  | _, _ => none
def dUn (M : Mem) (op : UnOp) : Option AV → R
  | some a => d1 M (un op a)
  | none => none
def dFunc (M : Mem) (f : Nat) : Option (List AV) → Option (List AV) → R
  | some l, some r => some (.func f l r, M)
  | _, _ => none
def dMake (E : Env) (M : Mem) (x y : Option Nat) : Option TyI → R
  | some j => (match x with
    | some n => (match y with
      | some m => bif Nat.ble n m && Nat.ble m 1048576 && Nat.ble j.bytes 65536 && Nat.beq j.zero.cells.length j.size then sliceR E M n m (some (repl m j.zero.cells)) else none
      | none => none)
    | none => none)
  | none => none
def bndN (top : Nat) : Option Nat → Option Nat
  | some n => bif Nat.ble n top then some n else none
  | none => none
def bnd (x : Option AV) (dflt top : Nat) : Option Nat := match x with
  | none => some dflt
  | some v => bndN top (nat? v)
def opdO (T : Tbl AV) : Option Operand → Option (Option AV)
  | none => some none
  | some x => (match opd T x with
    | some v => some (some v)
    | none => none)
def cut3 (b o s q m h : Nat) : Option Nat → Option AV
  | some l => bif Nat.beq m l then (bif Nat.beq q 0 then some (.slice b o 0 0 0) else some (.emp false)) else some (.slice b (o + l * s) (h - l) (m - l) q)
  | none => none
def cut2 (b o s q m : Nat) (lo : Option AV) : Option Nat → Option AV
  | some h => cut3 b o s q m h (bnd lo 0 h)
  | none => none
def cut1 (b o s len q : Nat) (lo hi : Option AV) : Option Nat → Option AV
  | some m => cut2 b o s q m lo (bnd hi len m)
  | none => none
def q3 (q : Nat) : Option AV → Nat
  | some _ => 0
  | none => q
def isNone? : Option AV → Bool
  | none => true
  | some _ => false
/-- 's[lo:hi:mx]' of a row of 'cap' elements of size s at (b, o), the length 'len'; q = 0: the capacity is known. -/
def cut (b o s len cap q : Nat) (lo hi mx : Option AV) : Option AV := bif isNone? hi && !isNone? mx then none else cut1 b o s len (q3 q mx) lo hi (bnd mx cap cap)
def someN : Option Nat → Bool
  | some _ => true
  | none => false
def cutNil (lo hi mx : Option AV) : Option AV := bif (!isNone? hi || isNone? mx) && someN (bnd mx 0 0) && someN (bnd hi 0 0) && someN (bnd lo 0 0) then some .nils else none
def cutEmp (z : Bool) (lo hi mx : Option AV) : Option AV := bif (!isNone? hi || isNone? mx) && someN (bnd mx 0 0) && someN (bnd hi 0 0) && someN (bnd lo 0 0) then some (.emp (z || !isNone? mx)) else none
def cutS (x : AV) (lo hi mx : Option AV) : Option TyI → Option AV
  | some j => (match x with
    | .slice b o n c q => bif Nat.beq q 0 || Nat.beq q j.size then cut b o j.size n c q lo hi mx else none
    | .nils => cutNil lo hi mx
    | .emp z => cutEmp z lo hi mx
    | _ => none)
  | none => none
def cutA (n : Nat) (x : AV) (lo hi mx : Option AV) : Option TyI → Option AV
  | some j => (match x with
    | .ptr b o => cut b o j.size n n 0 lo hi mx
    | _ => none)
  | none => none
def dSlice1 (ty : Nat → Option TyI) (M : Mem) (x : Option AV) (lo hi mx : Option AV) : Option TyI → R
  | some i => (match x with
    | some v => (match i.td with
      | .slice e => d1 M (cutS v lo hi mx (ty e))
      | .array n e => d1 M (cutA n v lo hi mx (ty e))
      | _ => none)
    | none => none)
  | none => none
def dSlice (ty : Nat → Option TyI) (M : Mem) (t : Nat) (x : Option AV) : Option (Option AV) → Option (Option AV) → Option (Option AV) → R
  | some lo, some hi, some mx => dSlice1 ty M x lo hi mx (ty t)
  | _, _, _ => none
def ptrF (M : Mem) (b o fo : Nat) : Option TyI → R
  | some j => bif Nat.beq j.size 0 then none else some (.ptr b (o + fo), M)
  | none => none
def dFieldAddr (ty : Nat → Option TyI) (M : Mem) (x : Option AV) (f : Nat) : Option TyI → R
  | some i => (match i.td with
    | .struct fs => (match x with
      | some (.ptr b o) => (match fieldAt fs f with
        | some (fo, ft) => ptrF M b o fo (ty ft)
        | none => none)
      | _ => none)
    | _ => none)
  | none => none
def partA (cs : List AV) (o : Nat) : Option TyI → Option AV
  | some i => bif i.isAgg then (match rdIn o i.size (some cs) with
      | some l => some (.agg l)
      | none => none)
    else (match rdIn o 1 (some cs) with
      | some [v] => some v
      | _ => none)
  | none => none
def dField (ty : Nat → Option TyI) (M : Mem) (x : Option AV) (f : Nat) : Option TyI → R
  | some i => (match i.td with
    | .struct fs => (match x with
      | some (.agg cs) => (match fieldAt fs f with
        | some (fo, ft) => d1 M (partA cs fo (ty ft))
        | none => none)
      | _ => none)
    | _ => none)
  | none => none
def ptrE (M : Mem) (b o n : Nat) (i : Option Nat) : Option TyI → R
  | some j => (match i with
    | some k => bif Nat.blt k n then some (.ptr b (o + k * j.size), M) else none
    | none => none)
  | none => none
def dIndexAddr (ty : Nat → Option TyI) (M : Mem) (x : Option AV) (i : Option Nat) : Option TyI → R
  | some t => (match t.td with
    | .slice e => (match x with
      | some (.slice b o n _ _) => ptrE M b o n i (ty e)
      | _ => none)
    | .array n e => (match x with
      | some (.ptr b o) => ptrE M b o n i (ty e)
      | _ => none)
    | _ => none)
  | none => none
def idxE (M : Mem) (cs : List AV) (n : Nat) (i : Option Nat) : Option TyI → R
  | some j => (match i with
    | some k => bif Nat.blt k n then d1 M (partA cs (k * j.size) (some j)) else none
    | none => none)
  | none => none
def idxS (M : Mem) (s : ByteArray) : Option Nat → R
  | some k => (match s[k]? with
    | some b => some (.int .u8 b.toNat, M)
    | none => none)
  | none => none
def dIndex (ty : Nat → Option TyI) (M : Mem) (x : Option AV) (i : Option Nat) : Option TyI → R
  | some t => (match t.td with
    | .array n e => (match x with
      | some (.agg cs) => idxE M cs n i (ty e)
      | _ => none)
    | .string => (match x with
      | some (.str s) => idxS M s i
      | _ => none)
    | _ => none)
  | none => none
def nth : List AV → Nat → Option AV
  | [], _ => none
  | v :: _, 0 => some v
  | _ :: l, n + 1 => nth l n
def dExtract (M : Mem) (ix : Nat) : Option AV → R
  | some (.tup vs) => d1 M (nth vs ix)
  | _ => none
def convA (M : Mem) (n : Int) (z : AV) : AV → R
  | .int kd _ => (match z with
    | .int _ _ => some (.int kd (wr kd n), M)
    | _ => none)
  | _ => none
def dConv (M : Mem) (x : Option AV) : Option AV → Option AV → R
  | some z, some z' => (match x with
    | some (.int _ n) => convA M n z z'
    | _ => none)
  | _, _ => none
def lenA (M : Mem) (v : AV) : Option TyI → R
  | some i => (match i.td with
    | .slice _ => (match v with
      | .nils | .emp _ => some (.int .i64 0, M)
      | .slice _ _ n _ _ => some (.int .i64 n, M)
      | _ => none)
    | .array n _ => some (.int .i64 n, M)
    | _ => none)
  | none => none
def capA (M : Mem) (v : AV) : Option TyI → R
  | some i => (match i.td with
    | .slice _ => (match v with
      | .nils => some (.int .i64 0, M)
      | .slice _ _ _ c 0 => some (.int .i64 c, M)
      | _ => none)
    | _ => none)
  | none => none
def max2 (isMax : Bool) (x y : Int) : Int := bif isMax then (bif decide (x < y) then y else x) else (bif decide (y < x) then y else x)
def minmaxL (isMax : Bool) (k : IntKind) (x : Int) : List AV → Option AV
  | [] => some (.int k x)
  | .int _ y :: l => minmaxL isMax k (max2 isMax x y) l
  | _ :: _ => none
def minmax (isMax : Bool) : List AV → Option AV
  | .int k x :: l => minmaxL isMax k x l
  | _ => none
def tupR : Option Mem → R
  | some M => some (.tup [], M)
  | none => none
def clearA (E : Env) (M : Mem) (s : AV) : Option TyI → R
  | some j => (match s with
    | .nils | .emp _ => some (.tup [], M)
    | .slice b o n _ _ => bif Nat.beq n 0 then some (.tup [], M) else bif Nat.beq j.zero.cells.length j.size then tupR (wrc E M b o (repl n j.zero.cells)) else none
    | _ => none)
  | none => none

/-! append -/
def srcOf (E : Env) (M : Mem) (x : AV) (i : TyI) : Option (Nat × List AV) := match x with
  | .nils | .emp _ => some (0, [])
  | .int _ (.ofNat n) => bif Nat.ble n 1048576 && Nat.beq i.zero.cells.length i.size then some (n, repl n i.zero.cells) else none
  | .slice b o n _ _ => (match rd E M b o (n * i.size) with
    | some cs => some (n, cs)
    | none => none)
  | _ => none
def inPlace (M : Mem) (b o n c q : Nat) : Option Mem → R
  | some M' => some (.slice b o n c q, M')
  | none => none
/-- A new row for an append: its capacity is drawn. -/
def newRow (E : Env) (M : Mem) (n s : Nat) (cs : List AV) : R := bif cs.all AV.isCell then some (.slice (E.m0 + M.n) 0 n n s, newB E M cs) else none
def moved (E : Env) (M : Mem) (n s : Nat) (new : List AV) : Option (List AV) → R
  | some old => newRow E M n s (old ++ new)
  | none => none
/-- The row at block b ends where the slice ends: it lives on in a new row, or in its own. -/
def grown (E : Env) (M : Mem) (b o n s en : Nat) (new : List AV) : Option (List AV) → R
  | some cs => bif Nat.beq cs.length en then newRow E (M.put (b - E.m0) .dead) n s (cs.drop o ++ new) else none
  | none => none
def append3 (E : Env) (M : Mem) (i : TyI) (b o n c q n2 : Nat) (new : List AV) : R :=
  bif Nat.ble (n + n2) 1048576 then
    bif Nat.ble (n + n2) c then inPlace M b o (n + n2) c q (wrc E M b (o + n * i.size) new)
    else bif Nat.beq q 0 then moved E M (n + n2) i.size new (rd E M b o (n * i.size))
    else bif Nat.beq q i.size && Nat.ble E.m0 b then grown E M b o (n + n2) i.size (o + n * i.size) new (objCells (M.get (b - E.m0)))
    else none
  else none
def isSl : AV → Bool
  | .nils | .emp _ | .slice .. => true
  | _ => false
def append2 (E : Env) (M : Mem) (i : TyI) (s : AV) : Option (Nat × List AV) → R
  | some (n2, new) => bif Nat.beq n2 0 then (bif isSl s then some (s, M) else none)
    else bif Nat.blt 0 i.size && Nat.blt 0 i.bytes && Nat.ble i.bytes 65536 then (match s with
      | .nils => bif Nat.ble n2 1048576 then newRow E M n2 i.size new else none
      | .emp true => bif Nat.ble n2 1048576 then newRow E M n2 i.size new else none
      | .slice b o n c q => append3 E M i b o n c q n2 new
      | _ => none) else none
  | none => none
def append1 (E : Env) (M : Mem) (s x : AV) : Option TyI → R
  | some i => append2 E M i s (srcOf E M x i)
  | none => none
def isCount : AV → Option TyI → Bool
  | .int .., some i => (match i.zero with
    | .int .. => true
    | _ => false)
  | .int .., none => false
  | _, some i => (match i.td with
    | .slice _ => true
    | _ => false)
  | _, none => false
def ty0 (ty : Nat → Option TyI) : List TypeId → Option TyI
  | t :: _ => ty t
  | [] => none
def dAppend (ty : Nat → Option TyI) (E : Env) (M : Mem) (ts : List TypeId) : Option (List AV) → R
  | some [s, x] => (match ts with
    | t :: u :: _ => bif isCount x (ty u) then append1 E M s x (elemTy ty (ty t)) else none
    | _ => none)
  | _ => none
def one? (M : Mem) (f : AV → R) : Option (List AV) → R
  | some [v] => f v
  | _ => none
def lst? (M : Mem) (f : List AV → Option AV) : Option (List AV) → R
  | some l => d1 M (f l)
  | none => none
def dBuiltin (ty : Nat → Option TyI) (E : Env) (M : Mem) (b : Builtin) (ts : List TypeId) (args : Option (List AV)) : R := match b with
  | .len => one? M (fun v => lenA M v (ty0 ty ts)) args
  | .append => dAppend ty E M ts args
  | .max => lst? M (minmax true) args
  | .min => lst? M (minmax false) args
  | .cap => one? M (fun v => capA M v (ty0 ty ts)) args
  | .clear => one? M (fun v => clearA E M v (elemTy ty (ty0 ty ts))) args
  | _ => none
def dPick (M : Mem) (a b : Option AV) : Option AV → R
  | some (.bool t) => bif t then d1 M a else d1 M b
  | _ => none
def dMkFunc (T : Tbl AV) (M : Mem) (first caps : Array Operand) : Fn → R
  | .func f => dFunc M f (opds T first.toList) (opds T caps.toList)
  | _ => none
def dCallB (ty : Nat → Option TyI) (E : Env) (T : Tbl AV) (M : Mem) (args : Array Operand) (ts : Array TypeId) : Callee → R
  | .builtin b => dBuiltin ty E M b ts.toList (opds T args.toList)
  | _ => none
/-- One operation that calls no function. -/
def dop (ty : Nat → Option TyI) (E : Env) (T : Tbl AV) (M : Mem) (op : Op) : R :=
  match op with
  | .move x => d1 M (opd T x)
  | .assign x => d1 M (opd T x)
  | .load t a => dLoad E M (opd T a) (ty t)
  | .store t a x => dStore E M (opd T a) (opd T x) (ty t)
  | .binOp op t x y _ => dBin ty M op t (opd T x) (opd T y)
  | .indexAddr t x ix => dIndexAddr ty M (opd T x) (natO (opd T ix)) (ty t)
  | .fieldAddr s x f => dFieldAddr ty M (opd T x) f (ty s)
  | .call c => dCallB ty E T M c.args c.argTypes c.callee
  | .pick c a b => dPick M (opd T a) (opd T b) (opd T c)
  | .alloc t => dBox E M (zeroO (ty t))
  | .box _ x => dBox E M (opd T x)
  | .build t parts => dBuild ty T M parts.toList (ty t)
  | .buildSlice t len parts => dBuildSlice E T M len parts.toList (elemTy ty (ty t))
  | .nilCheck x => dNil M (opd T x)
  | .unOp op _ x => dUn M op (opd T x)
  | .makeFunc f first caps => dMkFunc T M first caps f
  | .makeSlice t l c => dMake E M (natO (opd T l)) (natO (opd T c)) (elemTy ty (ty t))
  | .slice t x lo hi mx => dSlice ty M t (opd T x) (opdO T lo) (opdO T hi) (opdO T mx)
  | .field t x f => dField ty M (opd T x) f (ty t)
  | .index t x ix => dIndex ty M (opd T x) (natO (opd T ix)) (ty t)
  | .extract x ix => dExtract M ix (opd T x)
  | .convert s d x => dConv M (opd T x) (zeroO (ty s)) (zeroO (ty d))
  | _ => none

/-! ### What a call hands back: only what its result reaches, numbered anew -/
def memb (b : Nat) : List Nat → Bool
  | [] => false
  | x :: l => bif Nat.beq x b then true else memb b l
def reach (m1 : Nat) (M : Mem) : Nat → List Nat → List Nat → Option (List Nat)
  | 0, _, _ => none
  | n + 1, found, todo => match todo with
    | [] => some found.reverse
    | b :: todo => bif Nat.blt b m1 || memb b found then reach m1 M n found todo
      else match objCells (M.get (b - m1)) with
        | some cs => reach m1 M n (b :: found) (AV.idsL cs ++ todo)
        | none => none
def posIn : List Nat → Nat → Nat → Nat
  | [], _, _ => 0
  | x :: l, k, b => bif Nat.beq x b then k else posIn l (k + 1) b
def consO : Option (List AV) → Option (List AObj) → Option (List AObj)
  | some cs, some r => some (.cells cs :: r)
  | _, _ => none
def renO (ρ : Nat → Nat) : Option (List AV) → Option (List AV)
  | some cs => some (AV.renL ρ cs)
  | none => none
def takeObj (m1 : Nat) (M : Mem) (ρ : Nat → Nat) : List Nat → Option (List AObj)
  | [] => some []
  | b :: l => consO (renO ρ (objCells (M.get (b - m1)))) (takeObj m1 M ρ l)
def newNo (base m1 : Nat) (found : List Nat) (b : Nat) : Nat := bif Nat.blt b m1 then b else base + posIn found 0 b
def pairO (v : AV) : Option (List AObj) → Option (AV × List AObj)
  | some l => some (v, l)
  | none => none
def compact2 (base m1 : Nat) (v : AV) (M : Mem) : Option (List Nat) → Option (AV × List AObj)
  | some found => pairO (AV.ren (newNo base m1 found) v) (takeObj m1 M (newNo base m1 found) found)
  | none => none
def compact1 (base m1 : Nat) (v : AV) (M : Mem) : List Nat → Option (AV × List AObj)
  | [] => some (v, [])
  | ids => compact2 base m1 v M (reach m1 M 100000 [] ids)
def compact (base m1 : Nat) (v : AV) (M : Mem) : Option (AV × List AObj) := compact1 base m1 v M (AV.ids v)

/-! ### Code -/
inductive Ex where
  | normal
  | exit (id : Nat)
  | ret
  deriving Inhabited

structure Tab where
  ty : Nat → Option TyI
  fn : Nat → Option Func
  shares : Nat → Bool      -- functions that are run on the caller's own memory
  big : Nat                -- the numbers that are left free before a call's own blocks
  keep : Bool              -- a call hands back all of its blocks
  prim : Nat → Bool        -- closed calls of which it is known that they answer true

abbrev RC := Option (Ex × Tbl AV × Mem)
structure Ih where
  call : Env → Nat → List AV → Mem → R
  code : Env → Code → Tbl AV → Mem → RC

def argsT : List AV → Nat → Tbl AV → Tbl AV
  | [], _, T => T
  | v :: l, k, T => argsT l (k + 1) (T.set k v)
def addTo (M : Mem) : Option (AV × List AObj) → R
  | some (v, l) => some (v, M.pushAll l)
  | none => none
def shiftNo (base m1 b : Nat) : Nat := bif Nat.blt b m1 then b else base + (b - m1)
def keepObj (ρ : Nat → Nat) : Option AObj → AObj
  | some (.cells cs) => .cells (AV.renL ρ cs)
  | _ => .dead
def keepAll (ρ : Nat → Nat) (M : Mem) : List AObj := (List.range M.n).map fun i => keepObj ρ (M.get i)
def compactR (keep : Bool) (base m1 : Nat) : R → Option (AV × List AObj)
  | some (v, M') => bif keep then some (AV.ren (shiftNo base m1) v, keepAll (shiftNo base m1) M') else compact base m1 v M'
  | none => none
/-- The numbers that are left free before a call's own blocks, in closed runs. -/
def BIG : Nat := 1099511627776
def roOf (E : Env) (hid : Nat → Bool) (M : Mem) (b : Nat) : Option (List AV) := bif hid b then none else cellsOf E M b
def pcallAt (keep : Bool) (ih : Ih) (E : Env) (hid : Nat → Bool) (f : Nat) (args : List AV) (M : Mem) (m1 : Nat) : R :=
  addTo M (compactR keep (E.m0 + M.n) m1 (ih.call { ro := roOf E hid M, m0 := m1, rnd := false } f args Mem.nil))
/-- A call of a function on a memory of its own; 'hid': blocks that it does not see. -/
def pcall (tab : Tab) (ih : Ih) (E : Env) (hid : Nat → Bool) (f : Nat) (args : List AV) (M : Mem) : R := pcallAt tab.keep ih E hid f args M (E.m0 + M.n + tab.big)
def zipT : List Nat → List AV → Tbl AV → Option (Tbl AV)
  | [], [], T => some T
  | p :: ps, v :: vs, T => zipT ps vs (T.set p v)
  | _, _, _ => none
def exJump : Ex → Option Code
  | .normal => none
  | .ret => some .ret
  | .exit id => some (.exit id)
def isNormal : Ex → Bool
  | .normal => true
  | _ => false
def loopAt (M : Mem) (i : Nat) : Option ALoop := match M.get i with
  | some (.loop r) => some r
  | _ => none
/-- A round's end. -/
def round3 (i : Nat) : RC → R
  | some (x, _, M) => (match loopAt M i with
    | some r => some (.bool (isNormal x), M.put i (.loop { r with st := bif isNormal x then 0 else 2, jump := exJump x }))
    | none => none)
  | none => none
def round2 (ih : Ih) (E : Env) (body : Code) (i : Nat) : RC → R
  | some (x, T, M) => bif isNormal x then (match loopAt M i with
      | some r => bif Nat.beq r.st 0 then round3 i (ih.code { E with rnd := true } body T (M.put i (.loop { r with st := 1 }))) else none
      | none => none) else none
  | none => none
def round1 (ih : Ih) (E : Env) (r : ALoop) (i : Nat) (M : Mem) : Option (Tbl AV) → R
  | some T => round2 ih E r.body i (ih.code { E with rnd := true } r.asg T M)
  | none => none
def round0 (ih : Ih) (E : Env) (i : Nat) (args : List AV) (M : Mem) : Option ALoop → R
  | some r => bif Nat.beq r.st 0 then round1 ih E r i M (zipT r.ps.toList args r.T) else none
  | none => none
/-- A round of a range over a function. -/
def yieldA (ih : Ih) (E : Env) (l : Nat) (args : List AV) (M : Mem) : R :=
  bif Nat.blt l E.m0 then none else round0 ih E (l - E.m0) args M (loopAt M (l - E.m0))
def callV (tab : Tab) (ih : Ih) (E : Env) (hid : Nat → Bool) (M : Mem) (args : List AV) : AV → R
  | .func g fs caps => bif tab.shares g then ih.call { E with rnd := false } g (fs ++ (args ++ caps)) M else pcall tab ih E hid g (fs ++ (args ++ caps)) M
  | .yld l => yieldA ih E l args M
  | _ => none
def callV? (tab : Tab) (ih : Ih) (E : Env) (hid : Nat → Bool) (M : Mem) : Option (List AV) → Option AV → R
  | some args, some f => callV tab ih E hid M args f
  | _, _ => none
def callOp (tab : Tab) (ih : Ih) (E : Env) (hid : Nat → Bool) (T : Tbl AV) (M : Mem) (c : Call) : R := match c.callee with
  | .value f => callV? tab ih E hid M (opds T c.args.toList) (opd T f)
  | .builtin b => dBuiltin tab.ty E M b c.argTypes.toList (opds T c.args.toList)
  | _ => none
def xop (tab : Tab) (ih : Ih) (E : Env) (hid : Nat → Bool) (T : Tbl AV) (M : Mem) (op : Op) : R := match op with
  | .call c => callOp tab ih E hid T M c
  | op => dop tab.ty E T M op

def dstOf (ops : List Oper) (j : Nat) : Option Tmp := match ops, j with
  | [], _ => none
  | o :: _, 0 => o.dst
  | _ :: l, j + 1 => dstOf l j
def isB (want : Bool) : AV → Bool
  | .bool b => b == want
  | _ => false
def wantT (T : Tbl AV) (want : Bool) : Option Tmp → Bool
  | some t => isB want (orUndef (T.get t))
  | none => false
def wantedA (ops : List Oper) (T : Tbl AV) : Option (Nat × Bool) → Bool
  | none => true
  | some (j, want) => wantT T want (dstOf ops j)
def putT (T : Tbl AV) (v : AV) : Option Tmp → Tbl AV
  | some t => T.set t v
  | none => T
abbrev RT := Option (Tbl AV × Mem)
def opsNext (T : Tbl AV) (d : Option Tmp) (k : Tbl AV → Mem → RT) : R → RT
  | some (v, M) => k (putT T v d) M
  | none => none
def noneHid (_ : Nat) : Bool := false
def opsRun (tab : Tab) (ih : Ih) (E : Env) (ops : List Oper) : List Oper → Tbl AV → Mem → RT
  | [], T, M => some (T, M)
  | o :: l, T, M => bif wantedA ops T o.guard then opsNext T o.dst (opsRun tab ih E ops l) (xop tab ih E noneHid T M o.op)
    else opsRun tab ih E ops l (putT T .undef o.dst) M

/-! ### A region that draws its order -/
/-- What an operation has touched. -/
inductive Tch where
  | none
  | rdB (b : Nat)
  | wrB (b : Nat)
  | apB (b c : Nat)      -- an append to block b that reads block c
  | cal
  | new                  -- it lays a block, and reads none
  | all                  -- a call that is run on the caller's own memory
def tchP (f : Nat → Tch) : Option AV → Tch
  | some (.ptr b _) => f b
  | _ => .none
def tchApp : Option (List AV) → Tch
  | some [.slice b _ _ _ _, .slice c _ _ _ _] => .apB b c
  | some [.slice b _ _ _ _, _] => .apB b b
  | some [_, .slice c _ _ _ _] => .rdB c
  | _ => .new
def tchClear : Option (List AV) → Tch
  | some [.slice b _ _ _ _] => .wrB b
  | _ => .none
def tchCall (tab : Tab) : Option AV → Tch
  | some (.func g _ _) => bif tab.shares g then .all else .cal
  | _ => .all
def tchC (tab : Tab) (T : Tbl AV) (c : Call) : Tch := match c.callee with
  | .value f => tchCall tab (opd T f)
  | .builtin .append => tchApp (opds T c.args.toList)
  | .builtin .clear => tchClear (opds T c.args.toList)
  | _ => .none
def touch (tab : Tab) (T : Tbl AV) (op : Op) : Tch := match op with
  | .load _ a => tchP .rdB (opd T a)
  | .store _ a _ => tchP .wrB (opd T a)
  | .call c => tchC tab T c
  | .alloc _ | .box .. | .buildSlice .. | .makeSlice .. => .new
  | _ => .none
def apart : Tch → Tch → Bool
  | .none, _ | _, .none => true
  | .all, _ | _, .all => false
  | .new, _ | _, .new => true
  | .rdB _, .rdB _ => true
  | .rdB b, .wrB c | .wrB b, .rdB c | .wrB b, .wrB c => !(Nat.beq b c)
  | .rdB b, .apB c _ | .apB c _, .rdB b => !(Nat.beq b c)
  | .wrB b, .apB c d | .apB c d, .wrB b => !(Nat.beq b c) && !(Nat.beq b d)
  | .apB b c, .apB d e => !(Nat.beq b d) && !(Nat.beq b e) && !(Nat.beq c d)
  | .cal, .rdB _ | .rdB _, .cal | .cal, .cal => true
  | .cal, _ | _, .cal => false
/-- An operation so far: what it has touched, and the blocks that it has laid. -/
structure Done where
  ix : Nat
  tch : Tch
  lo : Nat
  hi : Nat
def hidden (m : Nat) : List Done → Nat → Bool
  | [], _ => false
  | d :: l, b => bif !(m.testBit d.ix) && Nat.ble d.lo b && Nat.blt b d.hi then true else hidden m l b
/-- The blocks that an operation looks at. -/
def tchR : Tch → List Nat
  | .rdB b => [b]
  | .wrB b => [b]
  | .apB b c => [b, c]
  | _ => []
def tchW : Tch → List Nat
  | .wrB b => [b]
  | .apB b _ => [b]
  | _ => []
def outside (lo hi : Nat) : List Nat → Bool
  | [] => true
  | b :: l => bif Nat.ble lo b && Nat.blt b hi then false else outside lo hi l
def inside (hi : Nat) : List Nat → Bool
  | [] => true
  | b :: l => bif Nat.blt b hi then inside hi l else false
def apartAll (m : Nat) (t : Tch) : List Done → Bool
  | [] => true
  | d :: l => bif m.testBit d.ix || (apart t d.tch && outside d.lo d.hi (tchR t)) then apartAll m t l else false
def note (i : Nat) (t : Tch) (lo hi : Nat) (ds : List Done) : List Done := { ix := i, tch := t, lo, hi } :: ds
def drawNext (E : Env) (i : Nat) (t : Tch) (ds : List Done) (T : Tbl AV) (M : Mem) (d : Option Tmp) (k : List Done → Tbl AV → Mem → RT) : R → RT
  | some (v, M') => bif Nat.ble M.n M'.n then k (note i t (E.m0 + M.n) (E.m0 + M'.n) ds) (putT T v d) M' else none
  | none => none
def draw1 (tab : Tab) (ih : Ih) (E : Env) (i m : Nat) (o : Oper) (ds : List Done) (T : Tbl AV) (M : Mem) (k : List Done → Tbl AV → Mem → RT) (t : Tch) : RT :=
  bif apartAll m t ds && inside (E.m0 + M.n) (tchR t) then drawNext E i t ds T M o.dst k (xop tab ih E (hidden m ds) T M o.op) else none
def drawRun (tab : Tab) (ih : Ih) (E : Env) (ops : List Oper) : List Oper → List Nat → Nat → List Done → Tbl AV → Mem → RT
  | [], _, _, _, T, M => some (T, M)
  | _ :: _, [], _, _, _, _ => none
  | o :: l, m :: bf, i, ds, T, M => bif wantedA ops T o.guard then draw1 tab ih E i m o ds T M (fun ds T M => drawRun tab ih E ops l bf (i + 1) ds T M) (touch tab T o.op)
    else drawRun tab ih E ops l bf (i + 1) ds (putT T .undef o.dst) M

def drawEnd (tab : Tab) (n : Nat) : RT → RT
  | some (T, M) => bif Nat.ble M.n (n + tab.big) then some (T, M) else none
  | none => none
def inBlockA (id : Nat) : Ex → Ex
  | .exit j => bif Nat.beq j id then .normal else .exit j
  | e => e
def range3 (T : Tbl AV) (M : Mem) : Option Code → RC
  | none => some (.normal, T, M)
  | some .ret => some (.ret, T, M)
  | some (.exit id) => some (.exit id, T, M)
  | _ => none
def range2 (T : Tbl AV) (i : Nat) (M : Mem) : Option ALoop → RC
  | some r => bif Nat.beq r.st 1 then none else range3 T (M.put i .dead) r.jump
  | none => none
def range1 (T : Tbl AV) (i : Nat) : R → RC
  | some (_, M) => range2 T i M (loopAt M i)
  | none => none
/-- A statement 'for .. := range g': the record is laid, g called on it. -/
def rangeA (ih : Ih) (E : Env) (ps : Array Tmp) (asg body : Code) (T : Tbl AV) (M : Mem) : Option AV → RC
  | some (.func h fs caps) => bif E.rnd then none else
      range1 T (M.n + 1) (ih.call E h (fs ++ (.yld (E.m0 + (M.n + 1)) :: caps)) ((M.push .dead).push (.loop { st := 0, jump := none, T, ps, asg, body })))
  | _ => none
def normalR : RT → RC
  | some (T, M) => some (.normal, T, M)
  | none => none
def thenR (k : Tbl AV → Mem → RC) : RC → RC
  | some (x, T, M) => (match x with
    | .normal => k T M
    | x => some (x, T, M))
  | none => none
def blockR (id : Nat) : RC → RC
  | some (x, T, M) => some (inBlockA id x, T, M)
  | none => none
def boolO : Option AV → Option Bool
  | some (.bool t) => some t
  | _ => none
def codeF (tab : Tab) (ih : Ih) (E : Env) : Code → Tbl AV → Mem → RC
  | .skip, T, M => some (.normal, T, M)
  | .region _ ops draw, T, M => normalR (bif draw then drawEnd tab M.n (drawRun tab ih E ops.toList ops.toList (Region.before ops).toList 0 [] T M) else opsRun tab ih E ops.toList ops.toList T M)
  | .seq a b, T, M => thenR (codeF tab ih E b) (codeF tab ih E a T M)
  | .cond c a b, T, M => match boolO (opd T c) with
    | some t => bif t then codeF tab ih E a T M else codeF tab ih E b T M
    | none => none
  | .block id b, T, M => blockR id (codeF tab ih E b T M)
  | .loop b, T, M => thenR (ih.code E (.loop b)) (codeF tab ih E b T M)
  | .rangeFunc g ps asg body, T, M => rangeA ih E ps asg body T M (opd T g)
  | .exit id, T, M => some (.exit id, T, M)
  | .label _, T, M => some (.normal, T, M)
  | .ret, T, M => some (.ret, T, M)
  | _, _, _ => none
def fstR : R → Option AV
  | some (v, _) => some v
  | none => none
def resOne (tab : Tab) (E : Env) (T : Tbl AV) (M : Mem) : ResultVar → Option AV
  | .tmp t => some (orUndef (T.get t))
  | .cell a t => fstR (dLoad E M (some (orUndef (T.get a))) (tab.ty t))
def resAll (tab : Tab) (E : Env) (T : Tbl AV) (M : Mem) : List ResultVar → Option (List AV)
  | [] => some []
  | r :: l => cons? (resOne tab E T M r) (resAll tab E T M l)
def tupOf (M : Mem) : Option (List AV) → R
  | some [v] => some (v, M)
  | some vs => some (.tup vs, M)
  | none => none
def call2 (tab : Tab) (E : Env) (rs : List ResultVar) : RC → R
  | some (x, T, M) => (match x with
    | .exit _ => none
    | _ => tupOf M (resAll tab E T M rs))
  | none => none
def call1 (tab : Tab) (ih : Ih) (E : Env) (args : List AV) (M : Mem) (rs : List ResultVar) : Option Code → R
  | some c => call2 tab E rs (codeF tab ih E c (argsT args 0 .leaf) M)
  | none => none
def primA (M : Mem) : List AV → R
  | [] => some (.bool true, M)
  | _ => none
def callF (tab : Tab) (ih : Ih) (E : Env) (f : Nat) (args : List AV) (M : Mem) : R := match tab.fn f with
  | some fn => bif tab.prim f then primA M args else bif Nat.ble args.length fn.ntmps then call1 tab ih E args M fn.results.toList fn.body else none
  | none => none
def ev (tab : Tab) : Nat → Ih
  | 0 => { call := fun _ _ _ _ => none, code := fun _ _ _ _ => none }
  | n + 1 => { call := callF tab (ev tab n), code := codeF tab (ev tab n) }
end Go.Sx
/- S, second text: how abstract values and blocks stand to those of a world; the heap's invariant and what keeps it. -/
namespace Go.Sx
open Go.RowKit

theorem beqF {a b : Nat} (h : a ≠ b) : Nat.beq a b = false := by
  cases hh : Nat.beq a b with
  | false => rfl
  | true => exact absurd (Nat.eq_of_beq_eq_true hh) h
theorem beqT {a b : Nat} (h : Nat.beq a b = true) : a = b := Nat.eq_of_beq_eq_true h
theorem beqN {a b : Nat} (h : Nat.beq a b = false) : a ≠ b := fun e => by subst e; rw [Nat.beq_refl] at h; cases h
theorem bleT {a b : Nat} (h : Nat.ble a b = true) : a ≤ b := Nat.le_of_ble_eq_true h
theorem bleN {a b : Nat} (h : Nat.ble a b = false) : b < a := by
  rcases Nat.lt_or_ge b a with h' | h'
  · exact h'
  · rw [Nat.ble_eq_true_of_le h'] at h; cases h
theorem bltT {a b : Nat} (h : Nat.blt a b = true) : a < b := bleT (show Nat.ble (a + 1) b = true from h)
theorem bltN {a b : Nat} (h : Nat.blt a b = false) : b ≤ a := by have := bleN (show Nat.ble (a + 1) b = false from h); omega
theorem bltOf {a b : Nat} (h : a < b) : Nat.blt a b = true := Nat.ble_eq_true_of_le (show a + 1 ≤ b from h)
theorem bltOfN {a b : Nat} (h : b ≤ a) : Nat.blt a b = false := by
  cases hh : Nat.blt a b with
  | false => rfl
  | true => have := bltT hh; omega

/-! ### Tables -/
namespace Tbl
variable {α : Type}
theorem get_setF : ∀ (n : Nat) (t : Tbl α) (k : Nat) (x : α) (j : Nat), k < n → (setF n t k x).get j = if j = k then some x else t.get j := by
  intro n
  induction n with
  | zero => intro t k x j h; omega
  | succ n ih =>
    intro t k x j h
    by_cases k0 : k = 0
    · subst k0
      cases t with
      | leaf =>
        by_cases j0 : j = 0
        · subst j0; simp [setF, get]
        · simp only [setF, Nat.beq_refl, cond_true, get]
          have : Nat.beq j 0 = false := beqF j0
          rw [this]; simp [j0]
      | node v l r =>
        by_cases j0 : j = 0
        · subst j0; simp [setF, get]
        · simp only [setF, Nat.beq_refl, cond_true, get]
          have : Nat.beq j 0 = false := beqF j0
          rw [this]; simp [j0]
    · have kb : Nat.beq k 0 = false := beqF k0
      have hk : (k - 1) / 2 < n := by omega
      have step : ∀ (v : Option α) (l r : Tbl α), (bif Nat.beq (k % 2) 1 then Tbl.node v (setF n l ((k - 1) / 2) x) r else .node v l (setF n r ((k - 1) / 2) x)).get j = if j = k then some x else (Tbl.node v l r).get j := by
        intro v l r
        by_cases kp : k % 2 = 1
        · have kq : Nat.beq (k % 2) 1 = true := by rw [kp]; rfl
          rw [kq, cond_true]
          by_cases j0 : j = 0
          · subst j0; simp [get, Ne.symm k0]
          · have jb : Nat.beq j 0 = false := beqF j0
            simp only [get, jb, cond_false]
            by_cases jp : j % 2 = 1
            · have jq : Nat.beq (j % 2) 1 = true := by rw [jp]; rfl
              rw [jq, cond_true, cond_true, ih _ _ _ _ hk]
              have : ((j - 1) / 2 = (k - 1) / 2) ↔ j = k := by omega
              simp only [this]
            · have jq : Nat.beq (j % 2) 1 = false := beqF jp
              rw [jq, cond_false, cond_false]
              have : ¬ j = k := by omega
              simp [this]
        · have kq : Nat.beq (k % 2) 1 = false := beqF kp
          rw [kq, cond_false]
          by_cases j0 : j = 0
          · subst j0; simp [get, Ne.symm k0]
          · have jb : Nat.beq j 0 = false := beqF j0
            simp only [get, jb, cond_false]
            by_cases jp : j % 2 = 1
            · have jq : Nat.beq (j % 2) 1 = true := by rw [jp]; rfl
              rw [jq, cond_true, cond_true]
              have : ¬ j = k := by omega
              simp [this]
            · have jq : Nat.beq (j % 2) 1 = false := beqF jp
              rw [jq, cond_false, cond_false, ih _ _ _ _ hk]
              have : ((j - 1) / 2 = (k - 1) / 2) ↔ j = k := by omega
              simp only [this]
      cases t with
      | leaf =>
        have h1 := step none .leaf .leaf
        have h2 : (Tbl.node none .leaf .leaf : Tbl α).get j = (Tbl.leaf : Tbl α).get j := by
          simp only [get]; cases Nat.beq j 0 <;> cases Nat.beq (j % 2) 1 <;> rfl
        rw [h2] at h1
        simp only [setF, kb, cond_false]
        exact h1
      | node v l r =>
        simp only [setF, kb, cond_false]
        exact step v l r
theorem get_set (t : Tbl α) (k : Nat) (x : α) (j : Nat) : (t.set k x).get j = if j = k then some x else t.get j := get_setF _ _ _ _ _ (by omega)
theorem get_set_same (t : Tbl α) (k : Nat) (x : α) : (t.set k x).get k = some x := by rw [get_set, if_pos rfl]
theorem get_set_other (t : Tbl α) (k : Nat) (x : α) (j : Nat) (h : j ≠ k) : (t.set k x).get j = t.get j := by rw [get_set, if_neg h]
end Tbl

/-! ### Values -/
/-- Where an abstract block lies: the world's block, the first cell in it, how many cells from there on are the block's. -/
abbrev Phi := Nat → Option (Nat × Nat × Nat)
def Phi.Le (φ ψ : Phi) : Prop := ∀ b x, φ b = some x → ψ b = some x
theorem Phi.Le.refl (φ : Phi) : φ.Le φ := fun _ _ h => h
theorem Phi.Le.trans {φ ψ χ : Phi} (h : φ.Le ψ) (k : ψ.Le χ) : φ.Le χ := fun b x e => k b x (h b x e)

mutual
def VR (φ : Phi) : AV → Value → Prop
  | .int k n, v => v = .int k n
  | .bool b, v => v = .bool b
  | .str s, v => v = .string s
  | .ptr b o, v => ∃ g base ext, φ b = some (g, base, ext) ∧ v = .pointer (some ⟨g, base + o, none⟩)
  | .nilp, v => v = .pointer none
  | .slice b o n c q, v => ∃ g base ext c', φ b = some (g, base, ext) ∧ v = .slice (some ⟨g, base + o, none⟩) n c' ∧ n ≤ c ∧ c ≤ c' ∧ (q = 0 → c' = c) ∧ (0 < q → o + c' * q ≤ ext)
  | .nils, v => v = .slice none 0 0
  | .emp z, v => ∃ a c, v = .slice (some a) 0 c ∧ (z = true → c = 0)
  | .func f fs caps, v => ∃ xs ys, v = .func (.func f) ⟨xs⟩ ⟨ys⟩ ∧ VRL φ fs xs ∧ VRL φ caps ys
  | .yld l, v => ∃ g, φ l = some (g, 0, 0) ∧ v = .func (.yield g) #[] #[]
  | .nilf, v => v = .nilFunc
  | .agg cs, v => ∃ xs, v = .agg ⟨xs⟩ ∧ VRL φ cs xs
  | .tup vs, v => ∃ xs, v = .tuple ⟨xs⟩ ∧ VRL φ vs xs
  | .undef, v => v = undef
def VRL (φ : Phi) : List AV → List Value → Prop
  | [], l => l = []
  | a :: as, l => ∃ v r, l = v :: r ∧ VR φ a v ∧ VRL φ as r
end

mutual
theorem VR.mono {φ ψ : Phi} (h : φ.Le ψ) : ∀ (a : AV) (v : Value), VR φ a v → VR ψ a v
  | .int .., _, e => by simpa [VR] using e
  | .bool .., _, e => by simpa [VR] using e
  | .str .., _, e => by simpa [VR] using e
  | .ptr .., _, e => by
    simp only [VR] at e ⊢
    obtain ⟨g, base, ext, h1, h2⟩ := e
    exact ⟨g, base, ext, h _ _ h1, h2⟩
  | .nilp, _, e => by simpa [VR] using e
  | .slice .., _, e => by
    simp only [VR] at e ⊢
    obtain ⟨g, base, ext, c', h1, h2⟩ := e
    exact ⟨g, base, ext, c', h _ _ h1, h2⟩
  | .nils, _, e => by simpa [VR] using e
  | .emp _, _, e => by simpa only [VR] using e
  | .func _ fs caps, _, e => by
    simp only [VR] at e ⊢
    obtain ⟨xs, ys, h1, h2, h3⟩ := e
    exact ⟨xs, ys, h1, VRL.mono h fs xs h2, VRL.mono h caps ys h3⟩
  | .yld _, _, e => by
    simp only [VR] at e ⊢
    obtain ⟨g, h1, h2⟩ := e
    exact ⟨g, h _ _ h1, h2⟩
  | .nilf, _, e => by simpa [VR] using e
  | .agg cs, _, e => by
    simp only [VR] at e ⊢
    obtain ⟨xs, h1, h2⟩ := e
    exact ⟨xs, h1, VRL.mono h cs xs h2⟩
  | .tup cs, _, e => by
    simp only [VR] at e ⊢
    obtain ⟨xs, h1, h2⟩ := e
    exact ⟨xs, h1, VRL.mono h cs xs h2⟩
  | .undef, _, e => by simpa [VR] using e
theorem VRL.mono {φ ψ : Phi} (h : φ.Le ψ) : ∀ (as : List AV) (l : List Value), VRL φ as l → VRL ψ as l
  | [], _, e => by simpa [VRL] using e
  | a :: as, _, e => by
    simp only [VRL] at e ⊢
    obtain ⟨v, r, h1, h2, h3⟩ := e
    exact ⟨v, r, h1, VR.mono h a v h2, VRL.mono h as r h3⟩
end

theorem VRL.length {φ : Phi} : ∀ {as : List AV} {l : List Value}, VRL φ as l → l.length = as.length
  | [], _, e => by simp only [VRL] at e; subst e; rfl
  | a :: as, _, e => by
    simp only [VRL] at e
    obtain ⟨v, r, rfl, _, h⟩ := e
    simp [h.length]
theorem VRL.get {φ : Phi} : ∀ {as : List AV} {l : List Value}, VRL φ as l → ∀ {j : Nat} {a : AV}, as[j]? = some a → ∃ v, l[j]? = some v ∧ VR φ a v
  | [], _, _, j, a, h => by simp at h
  | x :: as, _, e, j, a, h => by
    simp only [VRL] at e
    obtain ⟨v, r, rfl, hv, hr⟩ := e
    cases j with
    | zero => simp at h; subst h; exact ⟨v, by simp, hv⟩
    | succ j => simp at h; obtain ⟨u, h1, h2⟩ := hr.get h; exact ⟨u, by simpa using h1, h2⟩
theorem VRL.of {φ : Phi} : ∀ {as : List AV} {l : List Value}, l.length = as.length → (∀ (j : Nat) (a : AV), as[j]? = some a → ∃ v, l[j]? = some v ∧ VR φ a v) → VRL φ as l
  | [], l, hl, _ => by simp only [VRL]; exact List.eq_nil_of_length_eq_zero (by simpa using hl)
  | x :: as, l, hl, h => by
    cases l with
    | nil => simp at hl
    | cons v r =>
      simp only [VRL]
      obtain ⟨u, h1, h2⟩ := h 0 x (by simp)
      simp at h1; subst h1
      exact ⟨_, r, rfl, h2, VRL.of (by simpa using hl) (fun j a ha => by obtain ⟨u, h1, h2⟩ := h (j + 1) a (by simpa using ha); exact ⟨u, by simpa using h1, h2⟩)⟩
theorem VRL.append {φ : Phi} : ∀ {as bs : List AV} {l r : List Value}, VRL φ as l → VRL φ bs r → VRL φ (as ++ bs) (l ++ r)
  | [], _, _, _, h, k => by simp only [VRL] at h; subst h; simpa using k
  | a :: as, bs, _, r, h, k => by
    simp only [VRL] at h
    obtain ⟨v, t, rfl, h1, h2⟩ := h
    simp only [List.cons_append, VRL]
    exact ⟨v, _, rfl, h1, h2.append k⟩
theorem VRL.drop {φ : Phi} {as : List AV} {l : List Value} (h : VRL φ as l) (n : Nat) : VRL φ (as.drop n) (l.drop n) :=
  VRL.of (by simp [h.length]) (fun j a ha => by rw [List.getElem?_drop] at ha; obtain ⟨v, h1, h2⟩ := h.get ha; exact ⟨v, by rw [List.getElem?_drop]; exact h1, h2⟩)
theorem VRL.take {φ : Phi} {as : List AV} {l : List Value} (h : VRL φ as l) (n : Nat) : VRL φ (as.take n) (l.take n) :=
  VRL.of (by simp [h.length]) (fun j a ha => by
    rw [List.getElem?_take] at ha
    split at ha
    · obtain ⟨v, h1, h2⟩ := h.get ha; exact ⟨v, by rw [List.getElem?_take, if_pos ‹_›]; exact h1, h2⟩
    · cases ha)
theorem VRL.one {φ : Phi} {a : AV} {v : Value} (h : VR φ a v) : VRL φ [a] [v] := by simp only [VRL]; exact ⟨v, [], rfl, h, rfl⟩
theorem VRL.nil {φ : Phi} : VRL φ [] [] := by simp [VRL]
theorem VRL.cons {φ : Phi} {a : AV} {v : Value} {as : List AV} {l : List Value} (h : VR φ a v) (k : VRL φ as l) : VRL φ (a :: as) (v :: l) := by simp only [VRL]; exact ⟨v, l, rfl, h, k⟩
theorem VRL.splice {φ : Phi} {as vs : List AV} {l r : List Value} (h : VRL φ as l) (k : VRL φ vs r) (o : Nat) : VRL φ (splice as o vs) (l.take o ++ r ++ l.drop (o + r.length)) := by
  rw [k.length]; exact ((h.take o).append k).append (h.drop _)
theorem VRL.repl {φ : Phi} {as : List AV} {l : List Value} (h : VRL φ as l) : ∀ n, VRL φ (repl n as) ((List.replicate n l).flatten)
  | 0 => by simp [Sx.repl, VRL]
  | n + 1 => by simp only [Sx.repl, List.replicate_succ, List.flatten_cons]; exact h.append (h.repl n)

theorem VR.cells {φ : Phi} {a : AV} {v : Value} (h : VR φ a v) : VRL φ a.cells v.cells.toList := by
  cases a <;> simp only [VR] at h
  case agg cs => obtain ⟨xs, rfl, h⟩ := h; exact h
  case ptr => obtain ⟨g, b, e, h1, rfl⟩ := h; exact VRL.one (by simp only [VR]; exact ⟨g, b, e, h1, rfl⟩)
  case slice => obtain ⟨g, b, e, c, h1, rfl, h2⟩ := h; exact VRL.one (by simp only [VR]; exact ⟨g, b, e, c, h1, rfl, h2⟩)
  case emp => obtain ⟨x, c, rfl, hz⟩ := h; exact VRL.one (by simp only [VR]; exact ⟨x, c, rfl, hz⟩)
  case func => obtain ⟨xs, ys, rfl, h⟩ := h; exact VRL.one (by simp only [VR]; exact ⟨xs, ys, rfl, h⟩)
  case yld => obtain ⟨g, h1, rfl⟩ := h; exact VRL.one (by simp only [VR]; exact ⟨g, h1, rfl⟩)
  case tup => obtain ⟨xs, rfl, h⟩ := h; exact VRL.one (by simp only [VR]; exact ⟨xs, rfl, h⟩)
  all_goals (subst h; exact VRL.one (by simp only [VR]; try rfl))
theorem VR.oneCell {φ : Phi} {a : AV} {v : Value} (h : VR φ a v) (hc : a.isCell = true) : v.oneCell' = true := by
  cases a <;> simp only [VR] at h
  case agg => simp [AV.isCell] at hc
  case tup => simp [AV.isCell] at hc
  case undef => simp [AV.isCell] at hc
  case ptr => obtain ⟨g, b, e, h1, rfl⟩ := h; rfl
  case slice => obtain ⟨g, b, e, c, h1, rfl, h2⟩ := h; rfl
  case emp => obtain ⟨x, c, rfl, _⟩ := h; rfl
  case func => obtain ⟨xs, ys, rfl, h⟩ := h; rfl
  case yld => obtain ⟨g, h1, rfl⟩ := h; rfl
  all_goals (subst h; rfl)
theorem VRL.oneCells {φ : Phi} {as : List AV} {l : List Value} (h : VRL φ as l) (hc : as.all AV.isCell = true) : ∀ v ∈ l, v.oneCell' = true := by
  intro v hv
  obtain ⟨j, hj, rfl⟩ := List.getElem_of_mem hv
  have hj' : j < as.length := by rw [← h.length]; exact hj
  obtain ⟨u, h1, h2⟩ := h.get (j := j) (a := as[j]) (by simp [hj'])
  rw [List.getElem?_eq_getElem hj] at h1
  cases h1
  exact h2.oneCell (List.all_eq_true.1 hc _ (List.getElem_mem hj'))

mutual
theorem VR.ofV (φ : Phi) : ∀ (v : Value) (a : AV), AV.ofV v = some a → VR φ a v
  | .int k n, a, h => by simp only [AV.ofV, Option.some.injEq] at h; subst h; simp [VR]
  | .bool b, a, h => by simp only [AV.ofV, Option.some.injEq] at h; subst h; simp [VR]
  | .string s, a, h => by simp only [AV.ofV, Option.some.injEq] at h; subst h; simp [VR]
  | .pointer none, a, h => by simp only [AV.ofV, Option.some.injEq] at h; subst h; simp [VR]
  | .pointer (some _), a, h => by simp [AV.ofV] at h
  | .slice none 0 0, a, h => by simp only [AV.ofV, Option.some.injEq] at h; subst h; simp [VR]
  | .slice none 0 (_ + 1), a, h => by simp [AV.ofV] at h
  | .slice none (_ + 1) _, a, h => by simp [AV.ofV] at h
  | .slice (some _) _ _, a, h => by simp [AV.ofV] at h
  | .nilFunc, a, h => by simp only [AV.ofV, Option.some.injEq] at h; subst h; simp [VR]
  | .agg ⟨cs⟩, a, h => by
    simp only [AV.ofV, Option.map_eq_some_iff] at h
    obtain ⟨l, h1, rfl⟩ := h
    simp only [VR]
    exact ⟨cs, rfl, VRL.ofVL φ cs l h1⟩
  | .float .., a, h => by simp [AV.ofV] at h
  | .complex .., a, h => by simp [AV.ofV] at h
  | .map _, a, h => by simp [AV.ofV] at h
  | .chan _, a, h => by simp [AV.ofV] at h
  | .func .., a, h => by simp [AV.ofV] at h
  | .iface .., a, h => by simp [AV.ofV] at h
  | .nilIface, a, h => by simp [AV.ofV] at h
  | .tuple _, a, h => by simp [AV.ofV] at h
theorem VRL.ofVL (φ : Phi) : ∀ (l : List Value) (as : List AV), AV.ofVL l = some as → VRL φ as l
  | [], as, h => by simp only [AV.ofVL, Option.some.injEq] at h; subst h; simp [VRL]
  | v :: l, as, h => by
    simp only [AV.ofVL] at h
    split at h
    · rename_i a r h1 h2
      cases h
      exact VRL.cons (VR.ofV φ v a h1) (VRL.ofVL φ l r h2)
    · cases h
end
end Go.Sx
/- S, third text: the invariant of the heap, and what a new block, a write, an append do to it. -/
namespace Go.Sx
open Go.RowKit

/-! ### What is asked of the program's code, once for all -/
def usesOf (ops : List Oper) (o : Oper) : List Tmp :=
  (o.op.operands.toList.filterMap fun | .tmp t => some t | _ => none) ++ (match o.guard with
    | some (j, _) => (match dstOf ops j with | some t => [t] | none => [])
    | none => []) ++ (match o.dst with | some t => [t] | none => [])
def dstLt (nt : Nat) (o : Oper) : Bool := match o.dst with | some t => Nat.blt t nt | none => true
def edgesLt (i : Nat) (o : Oper) : Bool := o.after.all fun e => !Region.binds .any e || Nat.blt e.on i
def ordered (bf : Array Nat) (i j : Nat) : Bool := Nat.beq i j || (bf.getD (max i j) 0).testBit (min i j)
/-- Whoever writes a slot is ordered with whoever uses it. -/
def slotsOk (ops : List Oper) (bf : Array Nat) : Bool :=
  ops.zipIdx.all fun (o, i) => ops.zipIdx.all fun (p, j) => match p.dst with
    | some t => !(usesOf ops o).contains t || ordered bf i j
    | none => true
/-- What the masks say, the edges say. -/
def masksOk (ops : List Oper) (bf : Array Nat) : Bool :=
  ops.zipIdx.all fun (o, i) => (List.range ops.length).all fun j => !(bf.getD i 0).testBit j || o.after.any fun e => Region.binds .any e && (Nat.beq e.on j || (bf.getD e.on 0).testBit j)
def drawOk (ops : Array Oper) : Bool :=
  (ops.toList.zipIdx.all fun (o, i) => edgesLt i o) && slotsOk ops.toList (Region.before ops) && masksOk ops.toList (Region.before ops)
def codeOk (nt : Nat) : Code → Bool
  | .region _ ops draw => ops.toList.all (dstLt nt) && (!draw || drawOk ops)
  | .seq a b => codeOk nt a && codeOk nt b
  | .cond _ a b => codeOk nt a && codeOk nt b
  | .block _ b => codeOk nt b
  | .loop b => codeOk nt b
  | .rangeFunc _ ps a b => ps.toList.all (fun p => Nat.blt p nt) && codeOk nt a && codeOk nt b
  | _ => true

/-! ### Slots -/
structure TR (φ : Phi) (T : Tbl AV) (ts : Array Value) : Prop where
  at_ : ∀ t, VR φ (orUndef (T.get t)) (ts.getD t undef)
theorem TR.mono {φ ψ : Phi} {T : Tbl AV} {ts : Array Value} (h : TR φ T ts) (hle : φ.Le ψ) : TR ψ T ts := ⟨fun t => (VR.mono hle _ _ (h.at_ t))⟩
theorem TR.set {φ : Phi} {T : Tbl AV} {ts : Array Value} (h : TR φ T ts) {t : Nat} (ht : t < ts.size) {a : AV} {v : Value} (hv : VR φ a v) : TR φ (T.set t a) (ts.setIfInBounds t v) := by
  refine ⟨fun k => ?_⟩
  rw [Tbl.get_set]
  by_cases hk : k = t
  · subst hk
    rw [if_pos rfl]
    have : (ts.setIfInBounds k v).getD k undef = v := by simp [ht]
    rw [this]; exact hv
  · rw [if_neg hk]
    have : (ts.setIfInBounds t v).getD k undef = ts.getD k undef := by simp [Array.getElem?_setIfInBounds_ne (Ne.symm hk)]
    rw [this]; exact h.at_ k
theorem TR.undef_all {φ : Phi} {ts : Array Value} (h : ∀ t, ts.getD t undef = undef) : TR φ .leaf ts := ⟨fun t => by rw [h t]; simp [Tbl.get, orUndef, VR]⟩

/-! ### Blocks -/
/-- The cells cs lie at cell 'base' of the world's block g; 'ext' cells from there on are the block's own. -/
def BlkAt (φ : Phi) (cs : List AV) (w : World) (g base ext : Nat) (own : Bool) : Prop :=
  ∃ c e fr, w.heap[g]? = some (.cells c e fr) ∧ base + ext ≤ c.size ∧ cs.length ≤ ext ∧
    (∀ (j : Nat) (a : AV), cs[j]? = some a → ∃ v, c[base + j]? = some v ∧ VR φ a v) ∧ (own = true → fr = (0, 0))
theorem BlkAt.mono {φ ψ : Phi} {cs : List AV} {w : World} {g base ext : Nat} {own : Bool} (h : BlkAt φ cs w g base ext own) (hle : φ.Le ψ) : BlkAt ψ cs w g base ext own := by
  obtain ⟨c, e, fr, h1, h2, h3, h4, h5⟩ := h
  exact ⟨c, e, fr, h1, h2, h3, fun j a ha => by obtain ⟨v, k1, k2⟩ := h4 j a ha; exact ⟨v, k1, VR.mono hle _ _ k2⟩, h5⟩
theorem BlkAt.same {φ : Phi} {cs : List AV} {w w' : World} {g base ext : Nat} {own : Bool} (h : BlkAt φ cs w g base ext own) (hh : w'.heap[g]? = w.heap[g]?) : BlkAt φ cs w' g base ext own := by
  obtain ⟨c, e, fr, h1, h2⟩ := h
  exact ⟨c, e, fr, hh.trans h1, h2⟩
theorem BlkAt.ro {φ : Phi} {cs : List AV} {w : World} {g base ext : Nat} {own : Bool} (h : BlkAt φ cs w g base ext own) : BlkAt φ cs w g base ext false := by
  obtain ⟨c, e, fr, h1, h2, h3, h4, _⟩ := h
  exact ⟨c, e, fr, h1, h2, h3, h4, by simp⟩
theorem BlkAt.lt {φ : Phi} {cs : List AV} {w : World} {g base ext : Nat} {own : Bool} (h : BlkAt φ cs w g base ext own) : g < w.heap.size := by
  obtain ⟨c, e, fr, h1, _⟩ := h
  exact (Array.getElem?_eq_some_iff.1 h1).1
theorem cell_at {w : World} {g i : Nat} {c : Array Value} {e : TypeId} {fr : Nat × Nat} (h : w.heap[g]? = some (.cells c e fr)) : w.cell? ⟨g, i, none⟩ = c[i]? := by simp [World.cell?, h]
theorem add_at (g o n : Nat) : (⟨g, o, none⟩ : Addr).add n = ⟨g, o + n, none⟩ := by unfold Addr.add; split <;> simp_all
/-- A stretch of a block that is read. -/
theorem BlkAt.read {φ : Phi} {cs : List AV} {w : World} {g base ext : Nat} {own : Bool} (h : BlkAt φ cs w g base ext own) {o n : Nat} {l : List AV} (hl : rdIn o n (some cs) = some l) :
    ∃ vs, VRL φ l vs ∧ vs.length = n ∧ ∀ (j : Nat) (v : Value), vs[j]? = some v → w.cell? ((⟨g, base + o, none⟩ : Addr).add j) = some v := by
  obtain ⟨c, e, fr, h1, h2, h3, h4, h5⟩ := h
  simp only [rdIn] at hl
  cases hb : Nat.ble (o + n) cs.length with
  | false => rw [hb] at hl; simp at hl
  | true =>
    rw [hb, cond_true, Option.some.injEq] at hl
    have hle := bleT hb
    subst hl
    refine ⟨(c.toList.drop (base + o)).take n, VRL.of ?_ ?_, ?_, ?_⟩
    · simp; omega
    · intro j a ha
      rw [List.getElem?_take] at ha
      split at ha
      · rename_i hj
        rw [List.getElem?_drop] at ha
        obtain ⟨v, k1, k2⟩ := h4 _ _ ha
        refine ⟨v, ?_, k2⟩
        rw [List.getElem?_take, if_pos hj, List.getElem?_drop, Array.getElem?_toList]
        rw [show base + o + j = base + (o + j) by omega]; exact k1
      · cases ha
    · simp; omega
    · intro j v hv
      rw [List.getElem?_take] at hv
      split at hv
      · rw [List.getElem?_drop, Array.getElem?_toList] at hv
        rw [add_at, cell_at h1]; exact hv
      · cases hv

/-! ### Objects -/
def stOf : Nat → LoopState
  | 0 => .ready
  | 1 => .busy
  | 2 => .done
  | _ => .exhausted
structure LoopR (φ : Phi) (r : ALoop) (rec : Loop) : Prop where
  st : rec.state = stOf r.st
  jump : rec.pending = r.jump
  slots : TR φ r.T rec.tmps
  ps : rec.params = r.ps
  asg : rec.assign = r.asg
  body : rec.body = r.body
  psOk : ∀ p ∈ r.ps.toList, p < rec.tmps.size
  asgOk : codeOk rec.tmps.size r.asg = true
  bodyOk : codeOk rec.tmps.size r.body = true
theorem LoopR.mono {φ ψ : Phi} {r : ALoop} {rec : Loop} (h : LoopR φ r rec) (hle : φ.Le ψ) : LoopR ψ r rec := { h with slots := h.slots.mono hle }
def ObjOK (φ : Phi) (B : Nat) (w : World) (b : Nat) : AObj → Prop
  | .cells cs => ∃ g base ext, φ b = some (g, base, ext) ∧ B ≤ g ∧ BlkAt φ cs w g base ext true
  | .loop r => ∃ g rec, φ b = some (g, 0, 0) ∧ B ≤ g ∧ w.heap[g]? = some (.loop rec) ∧ LoopR φ r rec
  | .dead => True
def isDead : AObj → Bool
  | .dead => true
  | _ => false
theorem ObjOK.mono {φ ψ : Phi} {B : Nat} {w : World} {b : Nat} {o : AObj} (h : ObjOK φ B w b o) (hle : φ.Le ψ) : ObjOK ψ B w b o := by
  cases o with
  | cells cs => obtain ⟨g, base, ext, h1, h2, h3⟩ := h; exact ⟨g, base, ext, hle _ _ h1, h2, h3.mono hle⟩
  | loop r => obtain ⟨g, rec, h1, h2, h3, h4⟩ := h; exact ⟨g, rec, hle _ _ h1, h2, h3, h4.mono hle⟩
  | dead => trivial
/-- A live object has a place, and there the world's block lies. -/
theorem ObjOK.place {φ : Phi} {B : Nat} {w : World} {b : Nat} {o : AObj} (h : ObjOK φ B w b o) (hd : isDead o = false) : ∃ x, φ b = some x ∧ B ≤ x.1 ∧ x.1 < w.heap.size := by
  cases o with
  | cells cs => obtain ⟨g, base, ext, h1, h2, h3⟩ := h; exact ⟨_, h1, h2, h3.lt⟩
  | loop r => obtain ⟨g, rec, h1, h2, h3, h4⟩ := h; exact ⟨_, h1, h2, (Array.getElem?_eq_some_iff.1 h3).1⟩
  | dead => simp [isDead] at hd
theorem ObjOK.same {φ : Phi} {B : Nat} {w w' : World} {b : Nat} {o : AObj} (h : ObjOK φ B w b o) (hs : ∀ x, φ b = some x → w'.heap[x.1]? = w.heap[x.1]?) : ObjOK φ B w' b o := by
  cases o with
  | cells cs => obtain ⟨g, base, ext, h1, h2, h3⟩ := h; exact ⟨g, base, ext, h1, h2, h3.same (hs _ h1)⟩
  | loop r => obtain ⟨g, rec, h1, h2, h3, h4⟩ := h; exact ⟨g, rec, h1, h2, (hs _ h1).trans h3, h4⟩
  | dead => trivial

/-! ### The invariant -/
abbrev Heap := Nat → Option AObj
def Heap.upd (H : Heap) (b : Nat) (o : AObj) : Heap := fun k => if k = b then some o else H k
def Phi.upd (φ : Phi) (b : Nat) (x : Nat × Nat × Nat) : Phi := fun k => if k = b then some x else φ k
theorem Phi.upd_same (φ : Phi) (b : Nat) (x : Nat × Nat × Nat) : φ.upd b x b = some x := by simp [Phi.upd]
theorem Phi.upd_le {φ : Phi} {b : Nat} (h : φ b = none) (x : Nat × Nat × Nat) : φ.Le (φ.upd b x) := fun k y hk => by
  unfold Phi.upd
  split
  · rename_i e; subst e; rw [h] at hk; cases hk
  · exact hk
structure Inv (φ : Phi) (w0 : World) (H : Heap) (w : World) : Prop where
  below : Below w0.heap.size w0 w
  obj : ∀ b o, H b = some o → ObjOK φ w0.heap.size w b o
  sep : ∀ b b' o o' x x', b ≠ b' → H b = some o → H b' = some o' → isDead o = false → isDead o' = false → φ b = some x → φ b' = some x' → x.1 ≠ x'.1
theorem Inv.later {φ : Phi} {w0 : World} {H : Heap} {w w' : World} (h : Inv φ w0 H w) (hw : Below w.heap.size w w') : Inv φ w0 H w' :=
  ⟨h.below.trans (hw.mono h.below.size), fun b o hb => by
    cases hd : isDead o with
    | true => cases o <;> first | trivial | simp [isDead] at hd
    | false =>
      obtain ⟨x, hx, _, hlt⟩ := (h.obj b o hb).place hd
      exact (h.obj b o hb).same (fun y hy => by rw [hx] at hy; cases hy; exact hw.block _ hlt), h.sep⟩
theorem Inv.mono {φ ψ : Phi} {w0 : World} {H : Heap} {w : World} (h : Inv φ w0 H w) (hle : φ.Le ψ) : Inv ψ w0 H w :=
  ⟨h.below, fun b o hb => (h.obj b o hb).mono hle, fun b b' o o' x x' hne hb hb' hd hd' hx hx' => by
    obtain ⟨y, hy, _⟩ := (h.obj b o hb).place hd
    obtain ⟨y', hy', _⟩ := (h.obj b' o' hb').place hd'
    have e1 := hle _ _ hy
    have e2 := hle _ _ hy'
    rw [e1] at hx; rw [e2] at hx'
    cases hx; cases hx'
    exact h.sep b b' o o' _ _ hne hb hb' hd hd' hy hy'⟩
/-- The one law of change: object n is laid, or laid anew, at the world's block g, which no other live object has. -/
theorem Inv.put {φ ψ : Phi} {w0 : World} {H : Heap} {w w' : World} {n g base ext : Nat} {o : AObj} (h : Inv φ w0 H w)
    (hg : ∀ b' o' x, b' ≠ n → H b' = some o' → isDead o' = false → φ b' = some x → x.1 ≠ g) (hw : w.grownBy w' (some g)) (h0 : w0.heap.size ≤ g) (hle : φ.Le ψ)
    (hn : ψ n = some (g, base, ext)) (ho : ObjOK ψ w0.heap.size w' n o) : Inv ψ w0 (H.upd n o) w' := by
  refine ⟨h.below.grown hw h.below.size (fun k e => by cases e; exact h0), fun b o' hb => ?_, ?_⟩
  · unfold Heap.upd at hb
    split at hb
    · rename_i e; subst e; cases hb; exact ho
    · rename_i e
      cases hd : isDead o' with
      | true => cases o' <;> first | trivial | simp [isDead] at hd
      | false =>
        obtain ⟨x, hx, _, hlt⟩ := (h.obj b o' hb).place hd
        refine ((h.obj b o' hb).same (w' := w') (fun y hy => ?_)).mono hle
        rw [hx] at hy; cases hy
        exact hw.block _ hlt (fun e' => hg b o' x e hb hd hx (by cases e'; rfl))
  · intro b b' p p' x x' hne hb hb' hd hd' hx hx'
    unfold Heap.upd at hb hb'
    split at hb
    · rename_i e; subst e
      split at hb'
      · rename_i e'; exact absurd e'.symm hne
      · rename_i e'
        obtain ⟨y, hy, _⟩ := (h.obj b' p' hb').place hd'
        rw [hle _ _ hy] at hx'; cases hx'
        rw [hn] at hx; cases hx
        exact fun e2 => hg b' p' _ e' hb' hd' hy e2.symm
    · rename_i e
      obtain ⟨y, hy, _⟩ := (h.obj b p hb).place hd
      rw [hle _ _ hy] at hx; cases hx
      split at hb'
      · rename_i e'; subst e'
        rw [hn] at hx'; cases hx'
        exact hg b p _ e hb hd hy
      · rename_i e'
        obtain ⟨y', hy', _⟩ := (h.obj b' p' hb').place hd'
        rw [hle _ _ hy'] at hx'; cases hx'
        exact h.sep b b' p p' _ _ hne hb hb' hd hd' hy hy'
theorem Inv.kill {φ : Phi} {w0 : World} {H : Heap} {w : World} (h : Inv φ w0 H w) (b : Nat) : Inv φ w0 (H.upd b .dead) w := by
  refine ⟨h.below, fun k o hk => ?_, fun k k' o o' x x' hne hk hk' hd hd' hx hx' => ?_⟩
  · unfold Heap.upd at hk
    split at hk
    · cases hk; trivial
    · exact h.obj k o hk
  · unfold Heap.upd at hk hk'
    split at hk
    · cases hk; simp [isDead] at hd
    · split at hk'
      · cases hk'; simp [isDead] at hd'
      · exact h.sep k k' o o' x x' hne hk hk' hd hd' hx hx'
/-- What is left out of the heap is no matter. -/
theorem Inv.less {φ : Phi} {w0 : World} {H H' : Heap} {w : World} (h : Inv φ w0 H w) (hl : ∀ b o, H' b = some o → H b = some o) : Inv φ w0 H' w :=
  ⟨h.below, fun b o hb => h.obj b o (hl b o hb), fun b b' o o' x x' hne hb hb' => h.sep b b' o o' x x' hne (hl _ _ hb) (hl _ _ hb')⟩
theorem grownBy_some {w w' : World} (h : w.grownBy w' none) (g : Nat) : w.grownBy w' (some g) := ⟨h.os, h.tape, h.output, h.size, fun k hk _ => h.block k hk (by simp)⟩
theorem below_grownBy {w w' : World} (h : Below w.heap.size w w') : w.grownBy w' none := ⟨h.os, h.tape, h.output, h.size, fun k hk _ => h.block k hk⟩
/-- A new object, in a block of the world's that is new. -/
theorem Inv.new {φ : Phi} {w0 : World} {H : Heap} {w w' : World} {n g base ext : Nat} {o : AObj} (h : Inv φ w0 H w) (hn : φ n = none) (hw : Below w.heap.size w w') (hg : w.heap.size ≤ g)
    (ho : ObjOK (φ.upd n (g, base, ext)) w0.heap.size w' n o) : Inv (φ.upd n (g, base, ext)) w0 (H.upd n o) w' :=
  h.put (fun b' o' x _ hb hd hx => by
    obtain ⟨y, hy, _, hlt⟩ := (h.obj b' o' hb).place hd
    rw [hx] at hy; cases hy; omega) (grownBy_some (below_grownBy hw) g) (Nat.le_trans h.below.size hg) (Phi.upd_le hn _) (Phi.upd_same _ _ _) ho
/-- An object laid anew where it lay. -/
theorem Inv.write {φ : Phi} {w0 : World} {H : Heap} {w w' : World} {n g base ext : Nat} {o o1 : AObj} (h : Inv φ w0 H w) (hH : H n = some o1) (hd1 : isDead o1 = false) (hn : φ n = some (g, base, ext)) (hw : w.grownBy w' (some g))
    (ho : ObjOK φ w0.heap.size w' n o) : Inv φ w0 (H.upd n o) w' :=
  h.put (fun b' o' x hne hb hd hx => h.sep b' n o' o1 x _ hne hb hH hd hd1 hx hn) hw (by
    obtain ⟨y, hy, hB, _⟩ := (h.obj n o1 hH).place hd1
    rw [hn] at hy; cases hy; exact hB) (Phi.Le.refl φ) hn ho
theorem grownBy_alloc_none (w : World) (o : Obj) : Below w.heap.size w (w.alloc o) := (Below.refl _ _).alloc (Nat.le_refl _) _
theorem grownBy_setRow (w : World) (g : Nat) (cs : Array Value) : w.grownBy (w.setRow g cs) (some g) :=
  ⟨rfl, rfl, rfl, by simp, fun k _ hk => setRow_other w g k cs (fun e => hk (by rw [e]))⟩
end Go.Sx
/- S, fourth text: each operation that calls no function does in the world what S says: loads, stores, new blocks, numbers. -/
namespace Go.Sx
open Go.RowKit

/-! ### The tables of types -/
def TdOK : TypeDesc → TD → Prop
  | .struct fs, .struct l => fs.toList.map (fun f => (f.offset, f.type)) = l
  | .struct _, _ => False
  | .array n e, .array m e' => n = m ∧ e = e'
  | .array _ _, _ => False
  | .slice e, .slice e' => e = e'
  | .string, .string => True
  | _, .other => True
  | _, _ => False
def FlatOK (P : Program) (t : Nat) (zs : List AV) : Prop :=
  ∀ (φ : Phi) (xs ys : List AV) (r : Bool) (xs' ys' : List Value) (w : World), likeL zs xs = true → likeL zs ys = true → eqCells xs ys = some r → VRL φ xs xs' → VRL φ ys ys' →
    (Op.equal t (.agg ⟨xs'⟩) (.agg ⟨ys'⟩)).run P w = .ok r w
structure TyOK (P : Program) (t : Nat) (i : TyI) : Prop where
  info : ∃ inf, P.info? t = some inf ∧ inf.size = i.size ∧ inf.bytes = i.bytes ∧ ∃ z, inf.zero = some z ∧ AV.ofV z = some i.zero
  und : ∃ d, P.underlying t = some d ∧ TdOK d i.td
  int : ∀ k n, i.zero = .int k n → P.underlying t = some (.int k)
  bool : ∀ b, i.zero = .bool b → P.underlying t = some .bool
  ptr : i.zero = .nilp → ∃ e, P.underlying t = some (.pointer e)
  sl : i.zero = .nils → ∃ e, P.underlying t = some (.slice e)
  fn : i.zero = .nilf → ∃ a b c, P.underlying t = some (.func a b c)
  parts : ∀ fs, P.underlying t = some (.struct fs) → ∀ f ∈ fs.toList, (P.info? f.type).isSome = true
  zsize : i.zero.cells.length = i.size
  flat : i.flat = true → FlatOK P t i.zero.cells ∧ P.eqGuardType P.depth t = false
section
variable {P : Program} {t : Nat} {i : TyI} {w : World}
theorem TyOK.run_size (h : TyOK P t i) : (sizeOf t).run P w = .ok i.size w := by
  obtain ⟨inf, h1, h2, _⟩ := h.info
  simp [sizeOf, typeInfo, h1, h2]
theorem TyOK.run_zero (h : TyOK P t i) : ∃ z, (zeroValue t).run P w = .ok z w ∧ AV.ofV z = some i.zero := by
  obtain ⟨inf, h1, _, _, z, h3, h4⟩ := h.info
  exact ⟨z, by simp [zeroValue, typeInfo, h1, h3], h4⟩
theorem TyOK.run_info (h : TyOK P t i) : ∃ inf, (typeInfo t).run P w = .ok inf w ∧ inf.bytes = i.bytes ∧ inf.size = i.size := by
  obtain ⟨inf, h1, h2, h3, _⟩ := h.info
  exact ⟨inf, by simp [typeInfo, h1], h3, h2⟩
theorem run_und {d : TypeDesc} (h : P.underlying t = some d) : (underlying t).run P w = .ok d w := by simp [underlying, h]
theorem TyOK.run_isAgg (h : TyOK P t i) : (isAgg t).run P w = .ok i.isAgg w := by
  obtain ⟨d, h1, h2⟩ := h.und
  unfold isAgg
  simp only [Sem.run_bind, run_und h1, Result.andThen_ok]
  unfold TyI.isAgg
  cases htd : i.td <;> rw [htd] at h2 <;> cases d <;> simp_all [TdOK, TD.isAgg]
theorem TyOK.slice {e : Nat} (h : TyOK P t i) (hd : i.td = .slice e) : P.underlying t = some (.slice e) := by
  obtain ⟨d, h1, h2⟩ := h.und
  rw [hd] at h2
  cases d <;> simp_all [TdOK]
theorem TyOK.array {n e : Nat} (h : TyOK P t i) (hd : i.td = .array n e) : P.underlying t = some (.array n e) := by
  obtain ⟨d, h1, h2⟩ := h.und
  rw [hd] at h2
  cases d <;> simp_all [TdOK]
theorem TyOK.struct {l : List (Nat × Nat)} (h : TyOK P t i) (hd : i.td = .struct l) : ∃ fs, P.underlying t = some (.struct fs) ∧ fs.toList.map (fun f => (f.offset, f.type)) = l := by
  obtain ⟨d, h1, h2⟩ := h.und
  rw [hd] at h2
  cases d <;> simp_all [TdOK]
theorem TyOK.string (h : TyOK P t i) (hd : i.td = .string) : P.underlying t = some .string := by
  obtain ⟨d, h1, h2⟩ := h.und
  rw [hd] at h2
  cases d <;> simp_all [TdOK]
end

/-! ### What an operation owes -/
def heapOf (E : Env) (M : Mem) : Heap := fun b => if b < E.m0 then none else M.get (b - E.m0)
abbrev Ups := List (Nat × AObj)
def applyUps (H : Heap) : Ups → Heap
  | [] => H
  | (b, o) :: l => applyUps (H.upd b o) l
theorem Mem.get_push (M : Mem) (o : AObj) (i : Nat) : (M.push o).get i = if i = M.n then some o else M.get i := by
  simp only [Mem.push, Mem.get, Tbl.get_set]
  by_cases h : i = M.n
  · subst h
    rw [if_pos rfl, bltOf (Nat.lt_succ_self _), cond_true, if_pos rfl]
  · rw [if_neg h]
    by_cases h2 : i < M.n
    · rw [bltOf h2, bltOf (Nat.lt_succ_of_lt h2)]; simp only [cond_true, if_neg h]
    · rw [bltOfN (Nat.le_of_not_lt h2), bltOfN (show M.n + 1 ≤ i by omega)]; simp only [cond_false, if_neg h]
theorem Mem.get_put (M : Mem) (k : Nat) (o : AObj) (hk : k < M.n) (i : Nat) : (M.put k o).get i = if i = k then some o else M.get i := by
  simp only [Mem.put, Mem.get, Tbl.get_set]
  by_cases h : i = k
  · subst h
    rw [if_pos rfl, bltOf hk, cond_true, if_pos rfl]
  · rw [if_neg h, if_neg h]
theorem Mem.get_lt {M : Mem} {i : Nat} {o : AObj} (h : M.get i = some o) : i < M.n := by
  simp only [Mem.get] at h
  cases hb : Nat.blt i M.n with
  | true => exact bltT hb
  | false => rw [hb, cond_false] at h; cases h
theorem heapOf_push (E : Env) (M : Mem) (o : AObj) : heapOf E (M.push o) = (heapOf E M).upd (E.m0 + M.n) o := by
  funext b
  simp only [heapOf, Heap.upd, Mem.get_push]
  by_cases h : b < E.m0
  · rw [if_pos h, if_pos h, if_neg (by omega)]
  · rw [if_neg h, if_neg h]
    have : (b - E.m0 = M.n) ↔ b = E.m0 + M.n := by omega
    simp only [this]
theorem heapOf_put (E : Env) (M : Mem) (k : Nat) (o : AObj) (hk : k < M.n) : heapOf E (M.put k o) = (heapOf E M).upd (E.m0 + k) o := by
  funext b
  simp only [heapOf, Heap.upd, Mem.get_put M k o hk]
  by_cases h : b < E.m0
  · rw [if_pos h, if_pos h, if_neg (by omega)]
  · rw [if_neg h, if_neg h]
    have : (b - E.m0 = k) ↔ b = E.m0 + k := by omega
    simp only [this]
theorem objCells_some {x : Option AObj} {cs : List AV} (h : objCells x = some cs) : x = some (.cells cs) := by
  unfold objCells at h
  split at h
  · cases h; rfl
  · cases h

/-- The memory that a frame may read but not write: it lies in the world in which the frame began. -/
def RoOK (φ : Phi) (E : Env) (w0 : World) : Prop := ∀ b cs, b < E.m0 → E.ro b = some cs → ∃ g base ext, φ b = some (g, base, ext) ∧ BlkAt φ cs w0 g base ext false
theorem RoOK.mono {φ ψ : Phi} {E : Env} {w0 : World} (h : RoOK φ E w0) (hle : φ.Le ψ) : RoOK ψ E w0 := fun b cs hb hr => by
  obtain ⟨g, base, ext, h1, h2⟩ := h b cs hb hr
  exact ⟨g, base, ext, hle _ _ h1, h2.mono hle⟩
/-- What is known of a frame where an operation is met. -/
structure At (P : Program) (tab : Tab) (E : Env) (w0 : World) (φ : Phi) (H : Heap) (w : World) : Prop where
  ty : ∀ t i, tab.ty t = some i → TyOK P t i
  ro : RoOK φ E w0
  inv : Inv φ w0 H w
/-- Block b is in the heap as it is in the frame's memory. -/
def Seen (E : Env) (M : Mem) (H : Heap) (b : Nat) : Prop := E.m0 ≤ b → H b = heapOf E M b
theorem At.vis {P : Program} {tab : Tab} {E : Env} {w0 : World} {φ : Phi} {H : Heap} {w : World} (h : At P tab E w0 φ H w) {M : Mem} {b : Nat} (hs : Seen E M H b) {cs : List AV}
    (hc : cellsOf E M b = some cs) : ∃ g base ext, φ b = some (g, base, ext) ∧ BlkAt φ cs w g base ext false := by
  unfold cellsOf at hc
  cases hb : Nat.blt b E.m0 with
  | true =>
    rw [hb, cond_true] at hc
    obtain ⟨g, base, ext, h1, h2⟩ := h.ro b cs (bltT hb) hc
    exact ⟨g, base, ext, h1, h2.same (h.inv.below.block g h2.lt)⟩
  | false =>
    rw [hb, cond_false] at hc
    have hle := bltN hb
    have he := hs hle
    simp only [heapOf, if_neg (Nat.not_lt.2 hle), objCells_some hc] at he
    obtain ⟨g, base, ext, h1, _, h3⟩ := h.inv.obj b _ he
    exact ⟨g, base, ext, h1, h3.ro⟩
/-- A block of the frame's own. -/
theorem At.own {P : Program} {tab : Tab} {E : Env} {w0 : World} {φ : Phi} {H : Heap} {w : World} (h : At P tab E w0 φ H w) {M : Mem} {b : Nat} (hs : Seen E M H b) {cs : List AV} (hle : E.m0 ≤ b)
    (hc : objCells (M.get (b - E.m0)) = some cs) : H b = some (.cells cs) ∧ ∃ g base ext, φ b = some (g, base, ext) ∧ w0.heap.size ≤ g ∧ BlkAt φ cs w g base ext true := by
  have he := hs hle
  simp only [heapOf, if_neg (Nat.not_lt.2 hle), objCells_some hc] at he
  exact ⟨he, h.inv.obj b _ he⟩

/-- What every step keeps of the world: its size, and the blocks for deferred calls. -/
def KW (w w' : World) : Prop := w.heap.size ≤ w'.heap.size ∧ ∀ (g : Nat) (x : Option (List Deferred)), w.heap[g]? = some (Obj.deferred x) → w'.heap[g]? = some (Obj.deferred x)
theorem KW.refl (w : World) : KW w w := ⟨Nat.le_refl _, fun _ _ h => h⟩
theorem KW.trans {w w' w'' : World} (h : KW w w') (k : KW w' w'') : KW w w'' := ⟨Nat.le_trans h.1 k.1, fun g x e => k.2 g x (h.2 g x e)⟩
theorem KW.of_below {w w' : World} (h : Below w.heap.size w w') : KW w w' := ⟨h.size, fun g x e => (h.block g (Array.getElem?_eq_some_iff.1 e).1).trans e⟩
theorem KW.of_grown {w w' : World} {g : Nat} (h : w.grownBy w' (some g)) (hg : ∀ x, w.heap[g]? ≠ some (Obj.deferred x)) : KW w w' :=
  ⟨h.size, fun k x e => (h.block k (Array.getElem?_eq_some_iff.1 e).1 (fun e' => by cases e'; exact hg x e)).trans e⟩
/-- An operation has done in the world what S says: its value, the world, the heap's changes; W: blocks that it may write. -/
def Good (w w0 : World) (φ : Phi) (H : Heap) (E : Env) (M : Mem) (r : Result Next) (v : AV) (M' : Mem) (W : List Nat) : Prop :=
  ∃ nx vC w' φ' ups, r = .ok nx w' ∧ (nx = .value vC ∨ nx = .skip ∧ vC = undef) ∧ VR φ' v vC ∧ φ.Le φ' ∧ (∀ k, φ' k ≠ φ k → E.m0 + M.n ≤ k ∧ k < E.m0 + M'.n) ∧
    Inv φ' w0 (applyUps H ups) w' ∧ heapOf E M' = applyUps (heapOf E M) ups ∧ (∀ u ∈ ups, u.1 ∈ W ∨ (E.m0 + M.n ≤ u.1 ∧ u.1 < E.m0 + M'.n)) ∧ M.n ≤ M'.n ∧ KW w w'
section
variable {P : Program} {tab : Tab} {E : Env} {w0 : World} {φ : Phi} {H : Heap} {w : World} {M : Mem}
theorem Good.pure (h : Inv φ w0 H w) {v : AV} {vC : Value} (hv : VR φ v vC) {W : List Nat} : Good w w0 φ H E M (.ok (.value vC) w) v M W :=
  ⟨_, vC, w, φ, [], rfl, .inl rfl, hv, Phi.Le.refl φ, fun k hk => absurd rfl hk, h, rfl, by simp, Nat.le_refl _, KW.refl _⟩
/-- A new block. -/
theorem Good.push (h : Inv φ w0 H w) (hfree : φ (E.m0 + M.n) = none) {cs : List AV} {vs : List Value} {e : TypeId} {v : AV} {vC : Value} {ext : Nat} {l : List Value} (hvs : VRL φ cs vs) (hl : vs.length + l.length = ext)
    (hv : VR (φ.upd (E.m0 + M.n) (w.heap.size, 0, ext)) v vC) {W : List Nat} {w1 : World} (hw1 : w1.heap = w.heap) (hw2 : Below w.heap.size w w1) :
    Good w w0 φ H E M (.ok (.value vC) (w1.alloc (.cells (vs ++ l).toArray e))) v (M.push (.cells cs)) W := by
  have hle : φ.Le (φ.upd (E.m0 + M.n) (w.heap.size, 0, ext)) := Phi.upd_le hfree _
  have hsz : w1.heap.size = w.heap.size := by rw [hw1]
  refine ⟨_, vC, _, _, [(E.m0 + M.n, .cells cs)], rfl, .inl rfl, hv, hle, fun k hk => ?_, ?_, ?_, ?_, by simp [Mem.push], KW.of_below (hw2.alloc (by omega) _)⟩
  · unfold Phi.upd at hk
    split at hk
    · rename_i e; subst e; simp [Mem.push]
    · exact absurd rfl hk
  · simp only [applyUps]
    refine h.new hfree (hw2.alloc (by omega) _) (Nat.le_refl _) ?_
    refine ⟨w.heap.size, 0, ext, Phi.upd_same _ _ _, h.below.size, (vs ++ l).toArray, e, (0, 0), ?_, by simp; omega, by rw [← hvs.length]; omega, fun j a ha => ?_, fun _ => rfl⟩
    · rw [← hsz]; exact World.alloc_heap_new _ _
    · obtain ⟨u, h1, h2⟩ := hvs.get ha
      refine ⟨u, ?_, VR.mono hle _ _ h2⟩
      have hj : j < vs.length := (List.getElem?_eq_some_iff.1 h1).1
      simp only [Nat.zero_add]
      rw [List.getElem?_toArray, List.getElem?_append_left hj]; exact h1
  · simp only [applyUps]; exact heapOf_push E M _
  · intro u hu
    simp only [List.mem_singleton] at hu
    subst hu
    exact .inr ⟨Nat.le_refl _, by simp [Mem.push]⟩
end
end Go.Sx
/- S, fifth text: the operations, one by one (1). -/
namespace Go.Sx
open Go.RowKit
section
variable {P : Program} {tab : Tab} {E : Env} {w0 : World} {φ : Phi} {H : Heap} {w : World} {M M' : Mem} {v : AV}

theorem d1_some {x : Option AV} (h : d1 M x = some (v, M')) : x = some v ∧ M' = M := by
  cases x <;> simp_all [d1]
/-- The value of an operand. -/
def OV (φ : Phi) (x : Option AV) (y : Value) : Prop := ∀ u, x = some u → VR φ u y
theorem OV.get {x : Option AV} {y : Value} (h : OV φ x y) {u : AV} (hx : x = some u) : VR φ u y := h u hx
theorem run_value (s : Sem Value) (x : Value) (w' : World) (h : s.run P w = .ok x w') : (s >>= fun y => (Pure.pure (Next.value y) : Sem Next)).run P w = .ok (.value x) w' := by
  simp [h]
theorem run_skip (s : Sem Unit) (w' : World) (h : s.run P w = .ok () w') : (s >>= fun _ => (Pure.pure Next.skip : Sem Next)).run P w = .ok .skip w' := by
  simp [h]

/-! #### load -/
theorem run_loadVar_agg {t : Nat} {i : TyI} (hT : TyOK P t i) (hi : i.isAgg = true) {a : Addr} {vs : List Value} (hl : vs.length = i.size) (hc : ∀ (j : Nat) (u : Value), vs[j]? = some u → w.cell? (a.add j) = some u) :
    (loadVar t a).run P w = .ok (.agg ⟨vs⟩) w := by
  unfold loadVar
  simp only [Sem.run_bind, hT.run_isAgg, Result.andThen_ok, hi, if_true, hT.run_size]
  rw [← hl, run_loadCells_list w a vs hc]
  rfl
theorem run_loadVar_one {t : Nat} {i : TyI} (hT : TyOK P t i) (hi : i.isAgg = false) {a : Addr} {u : Value} (hc : w.cell? a = some u) :
    (loadVar t a).run P w = .ok u w := by
  unfold loadVar
  simp only [Sem.run_bind, hT.run_isAgg, Result.andThen_ok, hi]
  simp [hc]
theorem add_zero_addr (a : Addr) : a.add 0 = a := by simp [Addr.add]
theorem dLoad_inv {x : Option AV} {i : TyI} {r : AV × Mem} (h : dLoad E M x (some i) = some r) : ∃ b o, x = some (.ptr b o) ∧ (bif i.isAgg then aggR M (rd E M b o i.size) else oneR M (rd E M b o 1)) = some r := by
  cases x with
  | none => simp [dLoad] at h
  | some u => cases u <;> first | (simp [dLoad] at h; done) | exact ⟨_, _, rfl, h⟩
theorem dStore_inv {x u : Option AV} {i : TyI} {r : AV × Mem} (h : dStore E M x u (some i) = some r) : ∃ b o a, x = some (.ptr b o) ∧ u = some a ∧ (bif Nat.beq a.cells.length i.size then undefR (wrc E M b o a.cells) else none) = some r := by
  cases x with
  | none => simp [dStore] at h
  | some y => cases u with
    | none => cases y <;> simp [dStore] at h
    | some a => cases y <;> first | (simp [dStore] at h; done) | exact ⟨_, _, _, rfl, rfl, h⟩
theorem oneR_inv {x : Option (List AV)} {r : AV × Mem} (h : oneR M x = some r) : ∃ u, x = some [u] ∧ r = (u, M) := by
  cases x with
  | none => simp [oneR] at h
  | some l => match l, h with
    | [u], h => simp only [oneR, Option.some.injEq] at h; exact ⟨u, rfl, h.symm⟩
theorem load_ok (hA : At P tab E w0 φ H w) {t : Nat} {x : Option AV} {y : Value} (h : dLoad E M x (tab.ty t) = some (v, M')) (hx : OV φ x y) (hs : ∀ b o, x = some (.ptr b o) → Seen E M H b) :
    ∃ vC, (Instr.loadAt t y).run P w = .ok vC w ∧ VR φ v vC ∧ M' = M := by
  cases hty : tab.ty t with
  | none => rw [hty] at h; simp [dLoad] at h
  | some i =>
    have hT := hA.ty t i hty
    rw [hty] at h
    have h' := dLoad_inv h
    clear h
    obtain ⟨b, o, rfl, h⟩ := h'
    have hp := hx.get rfl
    simp only [VR] at hp
    obtain ⟨g, base, ext, hφ, rfl⟩ := hp
    have hseen := hs b o rfl
    cases hc : cellsOf E M b with
    | none => cases hi : i.isAgg <;> simp [hi, rd, hc, rdIn, aggR, oneR] at h
    | some cs =>
      obtain ⟨g', base', ext', hφ', hB⟩ := hA.vis hseen hc
      rw [hφ] at hφ'; cases hφ'
      cases hi : i.isAgg with
      | true =>
        rw [hi, cond_true] at h
        cases hr : rd E M b o i.size with
        | none => simp [hr, aggR] at h
        | some l =>
          simp only [hr, aggR, Option.some.injEq, Prod.mk.injEq] at h
          obtain ⟨rfl, rfl⟩ := h
          simp only [rd, hc] at hr
          obtain ⟨vs, h1, h2, h3⟩ := hB.read hr
          exact ⟨_, by simp only [Instr.loadAt, Instr.sureAddr, Sem.run_bind, Sem.run_pure, Result.andThen_ok]; exact run_loadVar_agg hT hi h2 h3, by simp only [VR]; exact ⟨vs, rfl, h1⟩, rfl⟩
      | false =>
        rw [hi, cond_false] at h
        obtain ⟨u, hr, he⟩ := oneR_inv h
        cases he
        simp only [rd, hc] at hr
        obtain ⟨vs, h1, h2, h3⟩ := hB.read hr
        obtain ⟨u', k1, k2⟩ := h1.get (j := 0) (a := v) (by simp)
        have := h3 0 u' k1
        rw [add_zero_addr] at this
        exact ⟨u', by simp only [Instr.loadAt, Instr.sureAddr, Sem.run_bind, Sem.run_pure, Result.andThen_ok]; exact run_loadVar_one hT hi this, k2, rfl⟩

/-! #### store -/
theorem wrc_some {b o : Nat} {vs : List AV} (h : wrc E M b o vs = some M') : ∃ cs, E.m0 ≤ b ∧ objCells (M.get (b - E.m0)) = some cs ∧ o + vs.length ≤ cs.length ∧ vs.all AV.isCell = true ∧ M' = M.put (b - E.m0) (.cells (splice cs o vs)) := by
  unfold wrc at h
  cases hb : Nat.blt b E.m0 with
  | true => rw [hb] at h; simp at h
  | false =>
    rw [hb, cond_false] at h
    cases hc : objCells (M.get (b - E.m0)) with
    | none => rw [hc] at h; simp [wrIn] at h
    | some cs =>
      rw [hc] at h
      simp only [wrIn] at h
      cases h1 : Nat.ble (o + vs.length) cs.length with
      | false => rw [h1] at h; simp at h
      | true =>
        rw [h1, cond_true] at h
        cases h2 : vs.all AV.isCell with
        | false => rw [h2] at h; simp at h
        | true =>
          rw [h2, cond_true] at h
          cases h
          exact ⟨cs, bltN hb, rfl, bleT h1, rfl, rfl⟩
theorem objCells_get {i : Nat} {cs : List AV} (h : objCells (M.get i) = some cs) : i < M.n := Mem.get_lt (objCells_some h)
/-- A stretch of a block of the frame's own is written. -/
theorem write_ok (hA : At P tab E w0 φ H w) {b o : Nat} {vs : List AV} (h : wrc E M b o vs = some M') (hs : Seen E M H b) {ws : List Value} (hws : VRL φ vs ws) {g base ext : Nat} (hφ : φ b = some (g, base, ext)) :
    ∃ w', (storeCells ⟨g, base + o, none⟩ ws).run P w = .ok () w' ∧ Inv φ w0 (applyUps H [(b, .cells (splice ((cellsOf E M b).getD []) o vs))]) w' ∧
      heapOf E M' = applyUps (heapOf E M) [(b, .cells (splice ((cellsOf E M b).getD []) o vs))] ∧ M'.n = M.n ∧ KW w w' := by
  obtain ⟨cs, hle, hc, hlen, hcell, rfl⟩ := wrc_some h
  obtain ⟨hH, g', base', ext', hφ', hB, hBlk⟩ := hA.own hs hle hc
  rw [hφ] at hφ'; cases hφ'
  have hco : cellsOf E M b = some cs := by unfold cellsOf; rw [bltOfN hle, cond_false]; exact hc
  rw [hco]
  simp only [Option.getD_some, applyUps]
  obtain ⟨c, e, fr, h1, h2, h3, h4, h5⟩ := hBlk
  obtain rfl := h5 rfl
  have hwl : ws.length = vs.length := hws.length
  refine ⟨_, run_storeCells_at P g (base + o) e ws 0 c w h1 (by omega) (hws.oneCells hcell), ?_, ?_, rfl, KW.of_grown (grownBy_setRow w g _) (fun x hx => by rw [h1] at hx; cases hx)⟩
  · refine hA.inv.write hH rfl hφ (grownBy_setRow w g _) ⟨g, base, ext, hφ, hB, _, e, (0, 0), setRow_heap w g c _ e (0, 0) h1, ?_, ?_, ?_, fun _ => rfl⟩
    · simp; omega
    · simp only [splice, List.length_append, List.length_take, List.length_drop]; omega
    · intro j a ha
      simp only [Nat.add_zero]
      rw [List.getElem?_toArray]
      unfold splice at ha
      rw [List.append_assoc] at ha ⊢
      rcases Nat.lt_or_ge j o with hj | hj
      · rw [List.getElem?_append_left (by simp; omega), List.getElem?_take, if_pos hj] at ha
        obtain ⟨u, k1, k2⟩ := h4 j a ha
        refine ⟨u, ?_, k2⟩
        rw [List.getElem?_append_left (by simp; omega), List.getElem?_take, if_pos (by omega), Array.getElem?_toList]; exact k1
      · rw [List.getElem?_append_right (by simp; omega)] at ha
        simp only [List.length_take, Nat.min_eq_left (show o ≤ cs.length by omega)] at ha
        rw [List.getElem?_append_right (by simp; omega)]
        simp only [List.length_take, Array.length_toList, Nat.min_eq_left (show base + o ≤ c.size by omega)]
        rcases Nat.lt_or_ge (j - o) vs.length with hj2 | hj2
        · rw [List.getElem?_append_left hj2] at ha
          obtain ⟨u, k1, k2⟩ := hws.get ha
          refine ⟨u, ?_, k2⟩
          rw [List.getElem?_append_left (by omega), show base + j - (base + o) = j - o by omega]; exact k1
        · rw [List.getElem?_append_right hj2, List.getElem?_drop] at ha
          obtain ⟨u, k1, k2⟩ := h4 _ a ha
          refine ⟨u, ?_, k2⟩
          rw [List.getElem?_append_right (by omega), List.getElem?_drop, Array.getElem?_toList, ← k1]
          congr 1; omega
  · rw [heapOf_put E M _ _ (objCells_get hc)]
    rw [show E.m0 + (b - E.m0) = b by omega]
theorem store_ok (hA : At P tab E w0 φ H w) {t : Nat} {x u : Option AV} {y z : Value} (h : dStore E M x u (tab.ty t) = some (v, M')) (hx : OV φ x y) (hu : OV φ u z) (hs : ∀ b o, x = some (.ptr b o) → Seen E M H b) :
    ∃ b o w' ob, x = some (.ptr b o) ∧ (Instr.storeAt t y z).run P w = .ok () w' ∧ v = .undef ∧ Inv φ w0 (applyUps H [(b, ob)]) w' ∧ heapOf E M' = applyUps (heapOf E M) [(b, ob)] ∧ M'.n = M.n ∧ KW w w' := by
  cases hty : tab.ty t with
  | none => rw [hty] at h; simp [dStore] at h
  | some i =>
    have hT := hA.ty t i hty
    rw [hty] at h
    have h' := dStore_inv h
    clear h
    obtain ⟨b, o, a, rfl, rfl, h⟩ := h'
    cases hb : Nat.beq a.cells.length i.size with
    | false => rw [hb] at h; simp at h
    | true =>
      rw [hb, cond_true] at h
      cases hw : wrc E M b o a.cells with
      | none => simp [hw, undefR] at h
      | some M2 =>
        simp only [hw, undefR, Option.some.injEq, Prod.mk.injEq] at h
        obtain ⟨rfl, rfl⟩ := h
        have hp := hx.get rfl
        simp only [VR] at hp
        obtain ⟨g, base, ext, hφ, rfl⟩ := hp
        have hz := (hu.get rfl).cells
        obtain ⟨w', k1, k2, k3, k4⟩ := write_ok hA hw (hs b o rfl) hz hφ
        refine ⟨b, o, w', _, rfl, ?_, rfl, k2, k3, k4⟩
        simp only [Instr.storeAt, Instr.sureAddr, Sem.run_bind, Sem.run_pure, Result.andThen_ok, storeVar, hT.run_size]
        have hl : z.cells.size = i.size := by have := hz.length; rw [beqT hb] at this; simpa using this
        simp only [hl, ne_eq, not_true_eq_false, if_false]
        exact k1

/-! #### new blocks -/
theorem isCells_all {a : AV} (h : isCells a = true) : a.cells.all AV.isCell = true := by
  cases a <;> simp_all [isCells, AV.cells, AV.isCell]
theorem box_ok (hA : At P tab E w0 φ H w) (hfree : M.n < M'.n → φ (E.m0 + M.n) = none) {x : Option AV} {y : Value} (h : dBox E M x = some (v, M')) (hx : OV φ x y) (t : TypeId) {W : List Nat} :
    Good w w0 φ H E M ((newVar t y >>= fun a => (Pure.pure (Next.value (.pointer (some a))) : Sem Next)).run P w) v M' W := by
  cases x with
  | none => simp [dBox] at h
  | some a =>
    simp only [dBox] at h
    cases hc : isCells a with
    | false => rw [hc] at h; simp at h
    | true =>
      rw [hc, cond_true] at h
      cases h
      have hy := (hx.get rfl).cells
      have hr : (newVar t y >>= fun a => (Pure.pure (Next.value (.pointer (some a))) : Sem Next)).run P w = .ok (.value (.pointer (some ⟨w.heap.size, 0, none⟩))) (w.alloc (.cells (y.cells.toList ++ []).toArray t)) := by
        simp only [newVar, newRow, Sem.run_bind, run_newObj, Result.andThen_ok, Sem.run_pure, List.append_nil, Array.toArray_toList]; rfl
      rw [hr]
      exact Good.push (l := []) (e := t) (ext := y.cells.toList.length) (E := E) (M := M) (v := .ptr (E.m0 + M.n) 0) (vC := .pointer (some ⟨w.heap.size, 0, none⟩)) (W := W) (w1 := w) hA.inv (hfree (Nat.lt_succ_self _)) hy (by simp)
        (by simp only [VR]; exact ⟨_, _, _, Phi.upd_same _ _ _, rfl⟩) rfl (Below.refl _ _)
end
end Go.Sx
/- S, sixth text: the operations, one by one (2): numbers, addresses, parts, cuts. -/
namespace Go.Sx
open Go.RowKit
section
variable {P : Program} {tab : Tab} {E : Env} {w0 : World} {φ : Phi} {H : Heap} {w : World} {M M' : Mem} {v : AV}

/-! #### numbers -/
theorem wrap_in64 {n : Int} (h : in64 n = true) : IntKind.i64.wrap n = n := by
  refine IntWalk.i64_in n ?_
  cases n with
  | ofNat m => have := bltT h; simp only [Int.ofNat_eq_natCast]; omega
  | negSucc m => have := bltT h; omega
theorem wr_eq (k : IntKind) (n : Int) : wr k n = k.wrap n := by
  cases k <;> simp only [wr]
  cases h : in64 n with
  | true => rw [cond_true]; exact (wrap_in64 h).symm
  | false => rfl
theorem kindEq_eq {k k' : IntKind} (h : kindEq k k' = true) : k = k' := by cases k <;> cases k' <;> first | rfl | cases h
theorem arith_ok {op : BinOp} {k : IntKind} {a b : Int} (h : arith op k a b = some v) :
    ∃ vC, (match op with
    | .add | .sub | .mul => Op.intArith op k a b
    | .quo | .rem => Op.intDiv op k a b
    | .and | .or | .xor | .andNot => Op.intBits op k a b
    | _ => Op.intCmp op a b).run P w = .ok vC w ∧ VR φ v vC := by
  cases op <;> simp only [arith, quoA, remA, bitsA, Option.some.injEq] at h
  case add => subst h; exact ⟨_, rfl, by simp [VR, wr_eq]⟩
  case sub => subst h; exact ⟨_, rfl, by simp [VR, wr_eq]⟩
  case mul => subst h; exact ⟨_, rfl, by simp [VR, wr_eq]⟩
  case quo =>
    by_cases hb : b = 0
    · simp [hb] at h
    · simp only [hb, decide_false, cond_false, Option.some.injEq] at h
      subst h
      exact ⟨.int k (k.wrap (a.tdiv b)), by simp [Op.intDiv, hb], by simp [VR, wr_eq]⟩
  case rem =>
    by_cases hb : b = 0
    · simp [hb] at h
    · simp only [hb, decide_false, cond_false, Option.some.injEq] at h
      subst h
      exact ⟨.int k (a.tmod b), by simp [Op.intDiv, hb], by simp [VR]⟩
  case and => subst h; exact ⟨_, rfl, by simp [VR, wr_eq]⟩
  case or => subst h; exact ⟨_, rfl, by simp [VR, wr_eq]⟩
  case xor => subst h; exact ⟨_, rfl, by simp [VR, wr_eq]⟩
  case eql => subst h; exact ⟨_, rfl, by simp only [VR]; try rfl⟩
  case neq => subst h; exact ⟨_, rfl, by simp only [VR]; try rfl⟩
  case lss => subst h; exact ⟨_, rfl, by simp only [VR]; try rfl⟩
  case leq => subst h; exact ⟨_, rfl, by simp only [VR]; try rfl⟩
  case gtr => subst h; exact ⟨_, rfl, by simp only [VR]; try rfl⟩
  case geq => subst h; exact ⟨_, rfl, by simp only [VR]; try rfl⟩
  all_goals cases h
theorem eqRes_some {op : BinOp} {x : Option Bool} (h : eqRes op x = some v) : ∃ r, x = some r ∧ ((op = .eql ∧ v = .bool r) ∨ (op = .neq ∧ v = .bool (!r))) := by
  cases x with
  | none => simp [eqRes] at h
  | some r => cases op <;> simp only [eqRes] at h <;> first | (cases h; done) | (cases h; exact ⟨r, rfl, by simp⟩)
theorem eqCell_ok {a b : AV} {r : Bool} (h : eqCell a b = some r) {x y : Value} (hx : VR φ a x) (hy : VR φ b y) :
    (∃ k n m, x = .int k n ∧ y = .int k m ∧ r = decide (n = m)) ∨ (∃ p q, x = .bool p ∧ y = .bool q ∧ r = (p == q)) := by
  cases a <;> cases b <;> simp only [eqCell] at h <;> first | (cases h; done) | skip
  · rename_i k n k' m
    cases hk : kindEq k k' with
    | false => rw [hk] at h; cases h
    | true =>
      rw [hk] at h; cases h
      obtain rfl := kindEq_eq hk
      simp only [VR] at hx hy
      exact .inl ⟨_, _, _, hx, hy, rfl⟩
  · rename_i p q
    cases h
    simp only [VR] at hx hy
    exact .inr ⟨_, _, hx, hy, rfl⟩
theorem aggBin_some {op : BinOp} {xs ys : List AV} {o : Option TyI} (h : aggBin op xs ys o = some v) : ∃ i r, o = some i ∧ i.flat = true ∧ likeL i.zero.cells xs = true ∧ likeL i.zero.cells ys = true ∧ eqCells xs ys = some r ∧ eqRes op (some r) = some v := by
  cases o with
  | none => simp [aggBin] at h
  | some i =>
    simp only [aggBin] at h
    cases h1 : (i.flat && likeL i.zero.cells xs && likeL i.zero.cells ys) with
    | false => rw [h1] at h; cases h
    | true =>
      rw [h1, cond_true] at h
      simp only [Bool.and_eq_true] at h1
      obtain ⟨r, hr, _⟩ := eqRes_some h
      rw [hr] at h
      exact ⟨i, r, rfl, h1.1.1, h1.1.2, h1.2, hr, h⟩
theorem isNilEq_ok {a b : AV} {r : Bool} (h : isNilEq a b = some r) {x y : Value} (hx : VR φ a x) (hy : VR φ b y) :
    (∃ p q n c m d, x = .slice p n c ∧ y = .slice q m d ∧ (p = none ∨ q = none) ∧ r = (p.isNone && q.isNone)) ∨
    (∃ p q, x = .pointer p ∧ y = .pointer q ∧ (p = none ∨ q = none) ∧ r = (p.isNone && q.isNone)) ∨
    ((x = .nilFunc ∧ y = .nilFunc ∧ r = true) ∨ (x = .nilFunc ∧ (∃ f a b, y = .func f a b) ∧ r = false) ∨ (y = .nilFunc ∧ (∃ f a b, x = .func f a b) ∧ r = false)) := by
  cases a <;> cases b <;> simp only [isNilEq] at h <;> first | (cases h; done) | (cases h; simp only [VR] at hx hy)
  case nilp.nilp => subst hx hy; exact .inr (.inl ⟨_, _, rfl, rfl, .inl rfl, rfl⟩)
  case ptr.nilp => obtain ⟨g, p, e, _, rfl⟩ := hx; subst hy; exact .inr (.inl ⟨_, _, rfl, rfl, .inr rfl, rfl⟩)
  case nilp.ptr => obtain ⟨g, p, e, _, rfl⟩ := hy; subst hx; exact .inr (.inl ⟨_, _, rfl, rfl, .inl rfl, rfl⟩)
  case nils.nils => subst hx hy; exact .inl ⟨_, _, _, _, _, _, rfl, rfl, .inl rfl, rfl⟩
  case slice.nils => obtain ⟨g, p, e, c, _, rfl, _⟩ := hx; subst hy; exact .inl ⟨_, _, _, _, _, _, rfl, rfl, .inr rfl, rfl⟩
  case nils.slice => obtain ⟨g, p, e, c, _, rfl, _⟩ := hy; subst hx; exact .inl ⟨_, _, _, _, _, _, rfl, rfl, .inl rfl, rfl⟩
  case emp.nils => obtain ⟨g, c, rfl, _⟩ := hx; subst hy; exact .inl ⟨_, _, _, _, _, _, rfl, rfl, .inr rfl, rfl⟩
  case nils.emp => obtain ⟨g, c, rfl, _⟩ := hy; subst hx; exact .inl ⟨_, _, _, _, _, _, rfl, rfl, .inl rfl, rfl⟩
  case nilf.nilf => subst hx hy; exact .inr (.inr (.inl ⟨rfl, rfl, rfl⟩))
  case func.nilf => obtain ⟨xs, ys, rfl, _⟩ := hx; subst hy; exact .inr (.inr (.inr (.inr ⟨rfl, ⟨_, _, _, rfl⟩, rfl⟩)))
  case nilf.func => obtain ⟨xs, ys, rfl, _⟩ := hy; subst hx; exact .inr (.inr (.inr (.inl ⟨rfl, ⟨_, _, _, rfl⟩, rfl⟩)))

theorem intBin_ok {op : BinOp} {k k' : IntKind} {a b : Int} {t : Nat} (h : intBin op k k' a b = some v) : ∃ vC, (binOp op t (.int k a) (.int k' b)).run P w = .ok vC w ∧ VR φ v vC := by
  by_cases h1 : op = .shl
  · subst h1
    simp only [intBin, shlA] at h
    by_cases hb : b < 0
    · simp [hb] at h
    · simp only [hb, decide_false, cond_false, Option.some.injEq] at h
      subst h
      exact ⟨.int k (k.wrap (a * 2 ^ (min b.toNat k.bits))), by simp [binOp, Op.shift, hb], by simp [VR, wr_eq]⟩
  · by_cases h2 : op = .shr
    · subst h2
      simp only [intBin, shrA] at h
      by_cases hb : b < 0
      · simp [hb] at h
      · simp only [hb, decide_false, cond_false, Option.some.injEq] at h
        subst h
        exact ⟨.int k (a.fdiv (2 ^ (min b.toNat k.bits))), by simp [binOp, Op.shift, hb], by simp [VR]⟩
    · have h' : (bif kindEq k k' then arith op k a b else none) = some v := by
        cases op <;> first | exact h | exact absurd rfl h1 | exact absurd rfl h2
      cases hk : kindEq k k' with
      | false => rw [hk] at h'; cases h'
      | true =>
        rw [hk, cond_true] at h'
        obtain rfl := kindEq_eq hk
        obtain ⟨vC, e1, e2⟩ := arith_ok (P := P) (φ := φ) (w := w) h'
        refine ⟨vC, ?_, e2⟩
        rw [← e1]
        cases op <;> first | exact absurd rfl h1 | exact absurd rfl h2 | simp [binOp]
theorem eqGuard_plain {op : BinOp} {t : Nat} {X Y : Operand} {x y : Value} (h1 : ∀ a, x ≠ .agg a) (h2 : x ≠ .nilIface) : (eqGuard op t X Y x y).run P w = .ok () w := by
  unfold eqGuard
  cases op <;> try rfl
  all_goals (cases x <;> first | exact absurd rfl h2 | exact absurd rfl (h1 _) | rfl | (cases y <;> rfl))
theorem binOp_eql {t : Nat} {x y : Value} (h : ∀ k a, x ≠ .int k a) (h' : ∀ k a, x ≠ .float k a) (h2 : ∀ k a b, x ≠ .complex k a b) (h3 : ∀ s, x ≠ .string s) : binOp .eql t x y = (do Pure.pure (.bool (← Op.equal t x y))) ∧ binOp .neq t x y = (do Pure.pure (.bool (!(← Op.equal t x y)))) := by
  cases x <;> first | exact absurd rfl (h _ _) | exact absurd rfl (h' _ _) | exact absurd rfl (h2 _ _ _) | exact absurd rfl (h3 _) | (cases y <;> exact ⟨rfl, rfl⟩)
theorem eqRes_ok {op : BinOp} {t : Nat} {X Y : Operand} {x y : Value} {r : Bool} (h : eqRes op (some r) = some v) (hg : (eqGuard op t X Y x y).run P w = .ok () w) (he : (Op.equal t x y).run P w = .ok r w)
    (h1 : ∀ k a, x ≠ .int k a) (h1' : ∀ k a, x ≠ .float k a) (h2 : ∀ k a b, x ≠ .complex k a b) (h3 : ∀ s, x ≠ .string s) :
    ∃ vC, (do eqGuard op t X Y x y; binOp op t x y : Sem Value).run P w = .ok vC w ∧ VR φ v vC := by
  obtain ⟨e1, e2⟩ := binOp_eql (t := t) (y := y) h1 h1' h2 h3
  obtain ⟨r', hr', h'⟩ := eqRes_some h
  cases hr'
  rcases h' with ⟨rfl, rfl⟩ | ⟨rfl, rfl⟩
  · exact ⟨.bool r, by simp [hg, e1, he], by simp [VR]⟩
  · exact ⟨.bool (!r), by simp [hg, e2, he], by simp [VR]⟩
theorem equal_head {t : Nat} {d : TypeDesc} (hd : P.underlying t = some d) {x y : Value} : (Op.equal t x y).run P w = (Op.equalIn (9999 + 1) t x y).run P w := rfl
theorem boolBin_some {op : BinOp} {a b : Bool} {o : Option TyI} (h : boolBin op a b o = some v) : ∃ i c, o = some i ∧ i.zero = .bool c ∧ eqRes op (some (a == b)) = some v := by
  cases o with
  | none => simp [boolBin] at h
  | some i =>
    simp only [boolBin] at h
    split at h
    · rename_i c hz; exact ⟨i, c, rfl, hz, h⟩
    · cases h
theorem nilBin_some {op : BinOp} {x y : AV} {o : Option TyI} (h : nilBin op x y o = some v) : ∃ i, o = some i ∧ eqRes op (isNilEq x y) = some v ∧ ((i.zero = .nils ∧ isSlV x = true) ∨ (i.zero = .nilp ∧ isPtrV x = true) ∨ (i.zero = .nilf ∧ isFnV x = true)) := by
  cases o with
  | none => simp [nilBin] at h
  | some i =>
    simp only [nilBin] at h
    split at h
    · rename_i hz; cases hx : isSlV x <;> rw [hx] at h <;> first | (cases h; done) | exact ⟨i, rfl, h, .inl ⟨hz, rfl⟩⟩
    · rename_i hz; cases hx : isPtrV x <;> rw [hx] at h <;> first | (cases h; done) | exact ⟨i, rfl, h, .inr (.inl ⟨hz, rfl⟩)⟩
    · rename_i hz; cases hx : isFnV x <;> rw [hx] at h <;> first | (cases h; done) | exact ⟨i, rfl, h, .inr (.inr ⟨hz, rfl⟩)⟩
    · cases h
theorem nilBin_ok (hA : At P tab E w0 φ H w) {op : BinOp} {t : Nat} {a b : AV} {x y : Value} (h : nilBin op a b (tab.ty t) = some v) (hx : VR φ a x) (hy : VR φ b y) (X Y : Operand) :
    ∃ vC, (do eqGuard op t X Y x y; binOp op t x y : Sem Value).run P w = .ok vC w ∧ VR φ v vC := by
  obtain ⟨i, hi, he, hz⟩ := nilBin_some h
  have hT := hA.ty t i hi
  obtain ⟨r, hr, _⟩ := eqRes_some he
  rw [hr] at he
  rcases isNilEq_ok hr hx hy with ⟨p, q, n, c, m, d, rfl, rfl, hpq, rfl⟩ | ⟨p, q, rfl, rfl, hpq, rfl⟩ | hf
  · have hs : ∃ e, P.underlying t = some (.slice e) := by
      rcases hz with ⟨hz, _⟩ | ⟨_, hz⟩ | ⟨_, hz⟩
      · exact hT.sl hz
      · cases a <;> simp [isPtrV] at hz <;> simp only [VR] at hx
        · obtain ⟨_, _, _, _, hx⟩ := hx; cases hx
        · cases hx
      · cases a <;> simp [isFnV] at hz <;> simp only [VR] at hx
        · obtain ⟨_, _, hx, _⟩ := hx; cases hx
        · cases hx
    obtain ⟨e, hu⟩ := hs
    refine eqRes_ok he (eqGuard_plain (by simp) (by simp)) ?_ (by simp) (by simp) (by simp) (by simp)
    rw [equal_head hu]
    unfold Op.equalIn
    simp only [Sem.run_bind, run_und hu, Result.andThen_ok]
    rcases hpq with rfl | rfl
    · cases q <;> simp
    · cases p <;> simp
  · have hs : ∃ e, P.underlying t = some (.pointer e) := by
      rcases hz with ⟨_, hz⟩ | ⟨hz, _⟩ | ⟨_, hz⟩
      · cases a <;> simp [isSlV] at hz <;> simp only [VR] at hx
        · obtain ⟨_, _, _, _, _, hx, _⟩ := hx; cases hx
        · cases hx
        · obtain ⟨_, _, hx, _⟩ := hx; cases hx
      · exact hT.ptr hz
      · cases a <;> simp [isFnV] at hz <;> simp only [VR] at hx
        · obtain ⟨_, _, hx, _⟩ := hx; cases hx
        · cases hx
    obtain ⟨e, hu⟩ := hs
    refine eqRes_ok he (eqGuard_plain (by simp) (by simp)) ?_ (by simp) (by simp) (by simp) (by simp)
    rw [equal_head hu]
    unfold Op.equalIn
    simp only [Sem.run_bind, run_und hu, Result.andThen_ok]
    rcases hpq with rfl | rfl
    · cases q <;> simp
    · cases p <;> simp
  · have hs : ∃ a b c, P.underlying t = some (.func a b c) := by
      rcases hz with ⟨_, hz⟩ | ⟨_, hz⟩ | ⟨hz, _⟩
      · rcases hf with ⟨rfl, _⟩ | ⟨rfl, _⟩ | ⟨_, ⟨f, p, q, rfl⟩, _⟩
        all_goals (cases a <;> simp [isSlV] at hz <;> simp only [VR] at hx <;> first | (cases hx; done) | (obtain ⟨_, _, _, _, _, hx, _⟩ := hx; cases hx; done) | (obtain ⟨_, _, hx, _⟩ := hx; cases hx))
      · rcases hf with ⟨rfl, _⟩ | ⟨rfl, _⟩ | ⟨_, ⟨f, p, q, rfl⟩, _⟩
        all_goals (cases a <;> simp [isPtrV] at hz <;> simp only [VR] at hx <;> first | (cases hx; done) | (obtain ⟨_, _, _, _, hx⟩ := hx; cases hx))
      · exact hT.fn hz
    obtain ⟨e1, e2, e3, hu⟩ := hs
    rcases hf with ⟨rfl, rfl, rfl⟩ | ⟨rfl, ⟨f, p, q, rfl⟩, rfl⟩ | ⟨rfl, ⟨f, p, q, rfl⟩, rfl⟩
    all_goals
      refine eqRes_ok he (eqGuard_plain (by simp) (by simp)) ?_ (by simp) (by simp) (by simp) (by simp)
      rw [equal_head hu]
      unfold Op.equalIn
      simp [run_und hu]
theorem bin_ok (hA : At P tab E w0 φ H w) {op : BinOp} {t : Nat} {a b : AV} {x y : Value} (h : bin tab.ty op t a b = some v) (hx : VR φ a x) (hy : VR φ b y) (X Y : Operand) :
    ∃ vC, (do eqGuard op t X Y x y; binOp op t x y : Sem Value).run P w = .ok vC w ∧ VR φ v vC := by
  unfold bin at h
  split at h
  · rename_i k a k' b
    simp only [VR] at hx hy
    subst hx hy
    obtain ⟨vC, e1, e2⟩ := intBin_ok (P := P) (φ := φ) (w := w) (t := t) h
    exact ⟨vC, by simp [eqGuard_plain, e1], e2⟩
  · rename_i p q
    simp only [VR] at hx hy
    subst hx hy
    obtain ⟨i, c, hi, hz, he⟩ := boolBin_some h
    have hu := (hA.ty t i hi).bool c hz
    refine eqRes_ok he (eqGuard_plain (by simp) (by simp)) ?_ (by simp) (by simp) (by simp) (by simp)
    rw [equal_head hu]
    unfold Op.equalIn
    simp [run_und hu]
  · rename_i xs ys
    obtain ⟨i, r, hi, hf, l1, l2, hr, he⟩ := aggBin_some h
    obtain ⟨k1, k2⟩ := (hA.ty t i hi).flat hf
    simp only [VR] at hx hy
    obtain ⟨xs', rfl, hx⟩ := hx
    obtain ⟨ys', rfl, hy⟩ := hy
    refine eqRes_ok he ?_ (k1 φ xs ys r xs' ys' w l1 l2 hr hx hy) (by simp) (by simp) (by simp) (by simp)
    exact run_eqGuard_agg w op t X Y _ _ k2
  · exact nilBin_ok hA h hx hy X Y
theorem un_ok {op : UnOp} {a : AV} {x : Value} (h : un op a = some v) (hx : VR φ a x) : ∃ vC, (Op.unary op x).run P w = .ok vC w ∧ VR φ v vC := by
  unfold un at h
  split at h
  · simp only [VR] at hx; subst hx; cases h
    exact ⟨_, rfl, by simp [VR, wr_eq]⟩
  · simp only [VR] at hx; subst hx; cases h
    exact ⟨_, rfl, by simp [VR]⟩
  · cases h
end
end Go.Sx
/- S, seventh text: the operations, one by one (3): addresses, parts, cuts. -/
namespace Go.Sx
open Go.RowKit
section
variable {P : Program} {tab : Tab} {E : Env} {w0 : World} {φ : Phi} {H : Heap} {w : World} {M M' : Mem} {v : AV}

theorem nat?_VR {u : AV} {n : Nat} (h : nat? u = some n) {y : Value} (hy : VR φ u y) : ∃ k, y = .int k (n : Int) := by
  unfold nat? at h
  split at h
  · cases h; simp only [VR] at hy; exact ⟨_, hy⟩
  · cases h
theorem natO_OV {x : Option AV} {n : Nat} (h : natO x = some n) {y : Value} (hy : OV φ x y) : ∃ k, y = .int k (n : Int) := by
  cases x with
  | none => simp [natO] at h
  | some u => exact nat?_VR h (hy.get rfl)
theorem fieldAt_get : ∀ (l : List (Nat × Nat)) (f : Nat), fieldAt l f = l[f]?
  | [], f => by cases f <;> rfl
  | x :: l, 0 => rfl
  | x :: l, f + 1 => by simp only [fieldAt, List.getElem?_cons_succ]; exact fieldAt_get l f
theorem field_of {fs : Array Field} {l : List (Nat × Nat)} (hl : fs.toList.map (fun f => (f.offset, f.type)) = l) {f fo ft : Nat} (h : fieldAt l f = some (fo, ft)) : ∃ fd : Field, fs[f]? = some fd ∧ fd.offset = fo ∧ fd.type = ft := by
  rw [fieldAt_get, ← hl, List.getElem?_map, Option.map_eq_some_iff] at h
  obtain ⟨fd, h1, h2⟩ := h
  simp only [Prod.mk.injEq] at h2
  exact ⟨fd, by rw [← Array.getElem?_toList]; exact h1, h2.1, h2.2⟩
theorem ptrF_some {b o fo : Nat} {j : Option TyI} (h : ptrF M b o fo j = some (v, M')) : ∃ i, j = some i ∧ i.size ≠ 0 ∧ v = .ptr b (o + fo) ∧ M' = M := by
  cases j with
  | none => simp [ptrF] at h
  | some i =>
    simp only [ptrF] at h
    cases hb : Nat.beq i.size 0 with
    | true => rw [hb] at h; cases h
    | false => rw [hb] at h; cases h; exact ⟨i, rfl, beqN hb, rfl, rfl⟩
theorem fieldAddr_ok (hA : At P tab E w0 φ H w) {t f : Nat} {x : Option AV} {y : Value} (h : dFieldAddr tab.ty M x f (tab.ty t) = some (v, M')) (hx : OV φ x y) :
    ∃ vC, (Instr.fieldAt t y f).run P w = .ok vC w ∧ VR φ v vC ∧ M' = M := by
  cases hty : tab.ty t with
  | none => rw [hty] at h; simp [dFieldAddr] at h
  | some i =>
    have hT := hA.ty t i hty
    rw [hty] at h
    simp only [dFieldAddr] at h
    cases htd : i.td with
    | struct l =>
      rw [htd] at h
      simp only [] at h
      obtain ⟨fs, hu, hl⟩ := hT.struct htd
      cases x with
      | none => simp at h
      | some u =>
        cases u with
        | ptr b o =>
          simp only [] at h
          cases hf : fieldAt l f with
          | none => rw [hf] at h; simp at h
          | some p =>
            obtain ⟨fo, ft⟩ := p
            rw [hf] at h
            simp only [] at h
            obtain ⟨j, hj, hs, rfl, rfl⟩ := ptrF_some h
            obtain ⟨fd, k1, rfl, rfl⟩ := field_of hl hf
            have hp := hx.get rfl
            simp only [VR] at hp
            obtain ⟨g, base, ext, hφ, rfl⟩ := hp
            refine ⟨.pointer (some ⟨g, base + o + fd.offset, none⟩), ?_, by simp only [VR]; exact ⟨g, base, ext, hφ, by rw [Nat.add_assoc]⟩, rfl⟩
            simp [Instr.fieldAt, run_und hu, k1, Instr.sureAddr, fieldPlace, (hA.ty _ j hj).run_size, hs, add_at]
        | _ => simp at h
    | _ => rw [htd] at h; simp at h
theorem ptrE_some {b o n : Nat} {k : Option Nat} {j : Option TyI} (h : ptrE M b o n k j = some (v, M')) : ∃ i c, j = some i ∧ k = some c ∧ c < n ∧ v = .ptr b (o + c * i.size) ∧ M' = M := by
  cases j with
  | none => simp [ptrE] at h
  | some i => cases k with
    | none => simp [ptrE] at h
    | some c =>
      simp only [ptrE] at h
      cases hb : Nat.blt c n with
      | false => rw [hb] at h; cases h
      | true => rw [hb] at h; cases h; exact ⟨i, c, rfl, rfl, bltT hb, rfl, rfl⟩
theorem indexAddr_ok (hA : At P tab E w0 φ H w) {t : Nat} {x ix : Option AV} {y iy : Value} (h : dIndexAddr tab.ty M x (natO ix) (tab.ty t) = some (v, M')) (hx : OV φ x y) (hi : OV φ ix iy) :
    ∃ vC, (Instr.indexAt t y iy).run P w = .ok vC w ∧ VR φ v vC ∧ M' = M := by
  cases hty : tab.ty t with
  | none => rw [hty] at h; simp [dIndexAddr] at h
  | some i =>
    have hT := hA.ty t i hty
    rw [hty] at h
    simp only [dIndexAddr] at h
    cases htd : i.td with
    | slice e =>
      rw [htd] at h
      simp only [] at h
      have hu := hT.slice htd
      cases x with
      | none => simp at h
      | some u =>
        cases u with
        | slice b o n c q =>
          simp only [] at h
          obtain ⟨j, k, hj, hk, hlt, rfl, rfl⟩ := ptrE_some h
          obtain ⟨kk, rfl⟩ := natO_OV hk hi
          have hp := hx.get rfl
          simp only [VR] at hp
          obtain ⟨g, base, ext, c', hφ, rfl, _⟩ := hp
          refine ⟨.pointer (some ⟨g, base + o + k * j.size, none⟩), ?_, by simp only [VR]; exact ⟨g, base, ext, hφ, by rw [Nat.add_assoc]⟩, rfl⟩
          simp [Instr.indexAt, asIntOf, run_und hu, (hA.ty _ j hj).run_size, hlt, Nat.not_le.2 hlt, add_at]
        | _ => simp at h
    | array n e =>
      rw [htd] at h
      simp only [] at h
      have hu := hT.array htd
      cases x with
      | none => simp at h
      | some u =>
        cases u with
        | ptr b o =>
          simp only [] at h
          obtain ⟨j, k, hj, hk, hlt, rfl, rfl⟩ := ptrE_some h
          obtain ⟨kk, rfl⟩ := natO_OV hk hi
          have hp := hx.get rfl
          simp only [VR] at hp
          obtain ⟨g, base, ext, hφ, rfl⟩ := hp
          refine ⟨.pointer (some ⟨g, base + o + k * j.size, none⟩), ?_, by simp only [VR]; exact ⟨g, base, ext, hφ, by rw [Nat.add_assoc]⟩, rfl⟩
          simp [Instr.indexAt, Instr.sureAddr, asIntOf, run_und hu, (hA.ty _ j hj).run_size, hlt, Nat.not_le.2 hlt, add_at]
        | _ => simp at h
    | _ => rw [htd] at h; simp at h

/-! #### parts of an aggregate -/
theorem part_ok (hA : At P tab E w0 φ H w) {t : Nat} {cs : List AV} {o : Nat} {r : AV} (h : partA cs o (tab.ty t) = some r) {xs : List Value} (hx : VRL φ cs xs) : ∃ vC, (part t ⟨xs⟩ o).run P w = .ok vC w ∧ VR φ r vC := by
  cases hty : tab.ty t with
  | none => rw [hty] at h; simp [partA] at h
  | some i =>
    have hT := hA.ty t i hty
    rw [hty] at h
    simp only [partA] at h
    cases hi : i.isAgg with
    | true =>
      rw [hi, cond_true] at h
      simp only [rdIn] at h
      cases hb : Nat.ble (o + i.size) cs.length with
      | false => rw [hb] at h; simp at h
      | true =>
        rw [hb] at h
        simp only [cond_true, Option.some.injEq] at h
        subst h
        have hle := bleT hb
        refine ⟨.agg ((⟨xs⟩ : Array Value).extract o (o + i.size)), by simp [part, hT.run_isAgg, hi, hT.run_size], ?_⟩
        simp only [VR]
        refine ⟨(xs.drop o).take i.size, ?_, (hx.drop o).take _⟩
        congr 1
        apply Array.ext'
        simp [List.take_drop, Nat.add_comm]
    | false =>
      rw [hi, cond_false] at h
      simp only [rdIn] at h
      cases hb : Nat.ble (o + 1) cs.length with
      | false => rw [hb] at h; simp at h
      | true =>
        rw [hb] at h
        have hle := bleT hb
        simp only [cond_true] at h
        have he : (cs.drop o).take 1 = [cs[o]] := by
          rw [List.drop_eq_getElem_cons (by omega)]; rfl
        rw [he] at h
        simp only [Option.some.injEq] at h
        obtain ⟨u, k1, k2⟩ := hx.get (j := o) (a := cs[o]) (by simp)
        subst h
        refine ⟨u, ?_, k2⟩
        simp [part, hT.run_isAgg, hi, k1]
theorem field_ok (hA : At P tab E w0 φ H w) {t f : Nat} {x : Option AV} {y : Value} (h : dField tab.ty M x f (tab.ty t) = some (v, M')) (hx : OV φ x y) :
    ∃ vC, (Instr.field t y f).run P w = .ok vC w ∧ VR φ v vC ∧ M' = M := by
  cases hty : tab.ty t with
  | none => rw [hty] at h; simp [dField] at h
  | some i =>
    have hT := hA.ty t i hty
    rw [hty] at h
    simp only [dField] at h
    cases htd : i.td with
    | struct l =>
      rw [htd] at h
      simp only [] at h
      obtain ⟨fs, hu, hl⟩ := hT.struct htd
      cases x with
      | none => simp at h
      | some u =>
        cases u with
        | agg cs =>
          simp only [] at h
          cases hf : fieldAt l f with
          | none => rw [hf] at h; simp at h
          | some p =>
            obtain ⟨fo, ft⟩ := p
            rw [hf] at h
            simp only [] at h
            obtain ⟨hp, rfl⟩ := d1_some h
            obtain ⟨fd, k1, rfl, rfl⟩ := field_of hl hf
            have hp' := hx.get rfl
            simp only [VR] at hp'
            obtain ⟨xs, rfl, hxs⟩ := hp'
            obtain ⟨vC, e1, e2⟩ := part_ok hA hp hxs
            exact ⟨vC, by simp [Instr.field, run_und hu, k1, asAgg, e1], e2, rfl⟩
        | _ => simp at h
    | _ => rw [htd] at h; simp at h
theorem index_ok (hA : At P tab E w0 φ H w) {t : Nat} {x ix : Option AV} {y iy : Value} (h : dIndex tab.ty M x (natO ix) (tab.ty t) = some (v, M')) (hx : OV φ x y) (hi : OV φ ix iy) :
    ∃ vC, (Instr.index t y iy).run P w = .ok vC w ∧ VR φ v vC ∧ M' = M := by
  cases hty : tab.ty t with
  | none => rw [hty] at h; simp [dIndex] at h
  | some i =>
    have hT := hA.ty t i hty
    rw [hty] at h
    simp only [dIndex] at h
    cases htd : i.td with
    | array n e =>
      rw [htd] at h
      simp only [] at h
      have hu := hT.array htd
      cases x with
      | none => simp at h
      | some u =>
        cases u with
        | agg cs =>
          simp only [] at h
          cases hj : tab.ty e with
          | none => rw [hj] at h; simp [idxE] at h
          | some j => cases hk : natO ix with
            | none => rw [hj, hk] at h; simp [idxE] at h
            | some k =>
              rw [hj, hk] at h
              simp only [idxE] at h
              cases hb : Nat.blt k n with
              | false => rw [hb] at h; cases h
              | true =>
                rw [hb, cond_true] at h
                obtain ⟨hp, rfl⟩ := d1_some h
                have hlt := bltT hb
                obtain ⟨kk, rfl⟩ := natO_OV hk hi
                have hp' := hx.get rfl
                simp only [VR] at hp'
                obtain ⟨xs, rfl, hxs⟩ := hp'
                rw [← hj] at hp
                obtain ⟨vC, e1, e2⟩ := part_ok hA hp hxs
                exact ⟨vC, by simp [Instr.index, asIntOf, run_und hu, (hA.ty _ j hj).run_size, hlt, Nat.not_le.2 hlt, e1], e2, rfl⟩
        | _ => simp at h
    | string =>
      rw [htd] at h
      simp only [] at h
      have hu := hT.string htd
      cases x with
      | none => simp at h
      | some u =>
        cases u with
        | str s =>
          simp only [] at h
          cases hk : natO ix with
          | none => rw [hk] at h; simp [idxS] at h
          | some k =>
            rw [hk] at h
            simp only [idxS] at h
            cases hs : s[k]? with
            | none => rw [hs] at h; simp at h
            | some b =>
              rw [hs] at h
              simp only [Option.some.injEq, Prod.mk.injEq] at h
              obtain ⟨rfl, rfl⟩ := h
              obtain ⟨kk, rfl⟩ := natO_OV hk hi
              have hp' := hx.get rfl
              simp only [VR] at hp'
              subst hp'
              exact ⟨.int .u8 b.toNat, by simp [Instr.index, asIntOf, run_und hu, hs], by simp [VR], rfl⟩
        | _ => simp at h
    | _ => rw [htd] at h; simp at h
theorem nth_get : ∀ (l : List AV) (n : Nat), nth l n = l[n]?
  | [], n => by cases n <;> rfl
  | x :: l, 0 => rfl
  | x :: l, n + 1 => by simp only [nth, List.getElem?_cons_succ]; exact nth_get l n
theorem extract_ok {ix : Nat} {x : Option AV} {y : Value} (h : dExtract M ix x = some (v, M')) (hx : OV φ x y) : ∃ vC, (Instr.extract y ix).run P w = .ok vC w ∧ VR φ v vC ∧ M' = M := by
  cases x with
  | none => simp [dExtract] at h
  | some u => cases u <;> simp only [dExtract] at h <;> first | (cases h; done) | skip
              rename_i vs
              obtain ⟨h1, rfl⟩ := d1_some h
              have hp := hx.get rfl
              simp only [VR] at hp
              obtain ⟨xs, rfl, hxs⟩ := hp
              rw [nth_get] at h1
              obtain ⟨u, k1, k2⟩ := hxs.get h1
              exact ⟨u, by simp [Instr.extract, k1], k2, rfl⟩
end
end Go.Sx
/- S, eighth text: the operations, one by one (4): structs, literals, make, conversions, cuts, len, cap, min, max, clear. -/
namespace Go.Sx
open Go.RowKit
section
variable {P : Program} {tab : Tab} {E : Env} {w0 : World} {φ : Phi} {H : Heap} {w : World} {M M' : Mem} {v : AV}

/-! #### filling -/
theorem set_fold (off : Nat) : ∀ (vs : List Value) (k : Nat) (arr : Array Value), off + k + vs.length ≤ arr.size →
    ((vs.zipIdx k).foldl (fun cs (p : Value × Nat) => cs.setIfInBounds (off + p.2) p.1) arr).toList = arr.toList.take (off + k) ++ vs ++ arr.toList.drop (off + k + vs.length)
  | [], k, arr, _ => by simp
  | x :: vs, k, arr, h => by
    simp only [List.length_cons] at h
    simp only [List.zipIdx_cons, List.foldl_cons]
    rw [set_fold off vs (k + 1) _ (by simp; omega)]
    have hlt : off + k < arr.toList.length := by simp; omega
    simp only [Array.toList_setIfInBounds]
    have e1 : (arr.toList.set (off + k) x).take (off + (k + 1)) = arr.toList.take (off + k) ++ [x] := by
      rw [show off + (k + 1) = off + k + 1 by omega, List.take_succ_eq_append_getElem (by simpa using hlt), List.take_set_of_le (Nat.le_refl _)]
      simp
    have e2 : (arr.toList.set (off + k) x).drop (off + (k + 1) + vs.length) = arr.toList.drop (off + k + (vs.length + 1)) := by
      rw [List.drop_set_of_lt (by omega)]
      congr 1; omega
    rw [e1, e2]
    simp
theorem array_fold (arr : Array Value) (vs : Array Value) (off : Nat) : vs.zipIdx.foldl (fun cs (c, j) => cs.setIfInBounds (off + j) c) arr = (vs.toList.zipIdx 0).foldl (fun cs (p : Value × Nat) => cs.setIfInBounds (off + p.2) p.1) arr := by
  rw [← Array.foldl_toList, Array.toList_zipIdx]
theorem fill_ok {place : Nat → Option (Nat × Nat)} {placeC : Nat → Option (Nat × Nat)} (hp : ∀ i x, place i = some x → placeC i = some x) {T : Tbl AV} {ρ : Operand → Value} : ∀ (parts : List (Nat × Operand)) (cs : List AV) (arr : Array Value) (cs' : List AV),
    fillA place T parts (some cs) = some cs' → VRL φ cs arr.toList → (∀ p ∈ parts, OV φ (opd T p.2) (ρ p.2)) →
    ∃ arr', Instr.fill placeC arr (parts.map fun (i, x) => (i, ρ x)) = some arr' ∧ VRL φ cs' arr'.toList
  | [], cs, arr, cs', h, hv, _ => by
    simp only [fillA, Option.some.injEq] at h; subst h
    exact ⟨arr, rfl, hv⟩
  | (i, x) :: rest, cs, arr, cs', h, hv, hx => by
    simp only [fillA] at h
    cases h1 : fill1 cs (opd T x) (place i) with
    | none =>
      rw [h1] at h
      cases rest <;> simp [fillA] at h
    | some c2 =>
      rw [h1] at h
      cases hpl : place i with
      | none => rw [hpl] at h1; simp [fill1] at h1
      | some os =>
        obtain ⟨o, s⟩ := os
        rw [hpl] at h1
        cases hxo : opd T x with
        | none => rw [hxo] at h1; simp [fill1] at h1
        | some u =>
          rw [hxo] at h1
          simp only [fill1] at h1
          cases hb : (Nat.beq u.cells.length s && Nat.ble (o + s) cs.length) with
          | false => rw [hb] at h1; cases h1
          | true =>
            rw [hb, cond_true, Option.some.injEq] at h1
            subst h1
            simp only [Bool.and_eq_true] at hb
            have hs := beqT hb.1
            have hle := bleT hb.2
            have hu := ((hx (i, x) (by simp)).get hxo).cells
            have hsz : (ρ x).cells.size = s := by have := hu.length; rw [hs] at this; simpa using this
            have hal : arr.size = cs.length := by have := hv.length; simpa using this
            have hv2 : VRL φ (splice cs o u.cells) ((ρ x).cells.zipIdx.foldl (fun cs (c, j) => cs.setIfInBounds (o + j) c) arr).toList := by
              rw [array_fold, set_fold o _ 0 arr (by simp; omega)]
              exact hv.splice hu o
            obtain ⟨arr', k1, k2⟩ := fill_ok hp rest _ _ cs' h hv2 (fun p hm => hx p (by simp [hm]))
            refine ⟨arr', ?_, k2⟩
            simp only [List.map_cons, Instr.fill, hp i _ hpl]
            rw [if_neg (by simp [hsz]; omega)]
            exact k1

/-! #### rows of zeros -/
theorem repl_length (as : List AV) : ∀ n, (repl n as).length = n * as.length
  | 0 => by simp [repl]
  | n + 1 => by simp only [repl, List.length_append, repl_length as n]; rw [Nat.succ_mul, Nat.add_comm]
theorem repl_get (as : List AV) : ∀ n j, j < n * as.length → (repl n as)[j]? = as[j % as.length]?
  | 0, j, h => by simp at h
  | n + 1, j, h => by
    simp only [repl]
    rcases Nat.lt_or_ge j as.length with hj | hj
    · rw [List.getElem?_append_left hj, Nat.mod_eq_of_lt hj]
    · rw [List.getElem?_append_right hj, repl_get as n _ (by rw [Nat.succ_mul] at h; omega), Nat.mod_eq_sub_mod hj]
theorem zeros_ok {as : List AV} {zs : Array Value} (h : VRL φ as zs.toList) (n m : Nat) (hm : m = n * as.length) : VRL φ (repl n as) ((Array.range m).map (zs[· % zs.size]!)).toList := by
  subst hm
  have hsz : zs.size = as.length := by have := h.length; simpa using this
  refine VRL.of (by simp [repl_length]) (fun j a ha => ?_)
  have hj : j < n * as.length := by rw [← repl_length]; exact (List.getElem?_eq_some_iff.1 ha).1
  rw [repl_get as n j hj] at ha
  obtain ⟨u, k1, k2⟩ := h.get ha
  refine ⟨u, ?_, k2⟩
  have hlt : j % as.length < zs.size := by have := (List.getElem?_eq_some_iff.1 k1).1; simpa using this
  rw [Array.getElem?_toList, Array.getElem?_map, Array.getElem?_range, if_pos hj]
  simp only [Option.map_some, hsz]
  congr 1
  rw [Array.getElem?_toList] at k1
  rw [getElem!_def, k1]
theorem TyOK.zero_cells {t : Nat} {i : TyI} (hT : TyOK P t i) (φ : Phi) : ∃ z, (∀ w, (zeroValue t).run P w = .ok z w) ∧ VR φ i.zero z := by
  obtain ⟨inf, h1, _, _, z, h3, h4⟩ := hT.info
  exact ⟨z, fun w => by simp [zeroValue, typeInfo, h1, h3], VR.ofV φ z _ h4⟩

/-! #### struct and array literals -/
theorem mapM_run {α β : Type} (P : Program) (w : World) (f : α → Sem β) (g : α → β) : ∀ (l : List α), (∀ a ∈ l, (f a).run P w = .ok (g a) w) → (l.mapM f).run P w = .ok (l.map g) w
  | [], _ => by simp
  | a :: l, h => by
    have h1 := h a (by simp)
    have h2 := mapM_run P w f g l (fun b hb => h b (by simp [hb]))
    simp [List.mapM_cons, h1, h2]
theorem arr_mapM_run {α β : Type} (P : Program) (w : World) (f : α → Sem β) (g : α → β) (l : Array α) (h : ∀ a ∈ l.toList, (f a).run P w = .ok (g a) w) : (l.mapM f).run P w = .ok (l.map g) w := by
  rw [Array.mapM_eq_mapM_toList]
  have := mapM_run P w f g l.toList h
  simp only [Sem.run_map, this, Result.andThen_ok]
  congr 1
  apply Array.ext'; simp
theorem aggR_some {x : Option (List AV)} (h : aggR M x = some (v, M')) : ∃ cs, x = some cs ∧ v = .agg cs ∧ M' = M := by
  cases x with
  | none => simp [aggR] at h
  | some cs => simp only [aggR, Option.some.injEq, Prod.mk.injEq] at h; exact ⟨cs, rfl, h.1.symm, h.2.symm⟩
theorem build_ok (hA : At P tab E w0 φ H w) {t : Nat} {T : Tbl AV} {ρ : Operand → Value} {parts : Array (Nat × Operand)} (h : dBuild tab.ty T M parts.toList (tab.ty t) = some (v, M'))
    (hx : ∀ p ∈ parts.toList, OV φ (opd T p.2) (ρ p.2)) : ∃ vC, (Instr.build t (parts.map fun (i, x) => (i, ρ x))).run P w = .ok vC w ∧ VR φ v vC ∧ M' = M := by
  cases hty : tab.ty t with
  | none => rw [hty] at h; simp [dBuild] at h
  | some i =>
    have hT := hA.ty t i hty
    obtain ⟨z, hz, hzv⟩ := hT.zero_cells φ
    rw [hty] at h
    simp only [dBuild] at h
    cases htd : i.td with
    | struct l =>
      rw [htd] at h
      simp only [] at h
      obtain ⟨fs, hu, hl⟩ := hT.struct htd
      obtain ⟨cs, hf, rfl, rfl⟩ := aggR_some h
      let g : Field → Nat × Nat := fun f => (f.offset, (P.cellsOf f.type))
      have hpl : (fs.mapM fun f => (do Pure.pure (f.offset, ← sizeOf f.type) : Sem (Nat × Nat))).run P w = .ok (fs.map g) w := by
        refine arr_mapM_run P w _ g fs (fun f hfm => ?_)
        obtain ⟨inf, hi⟩ := Option.isSome_iff_exists.1 (hT.parts fs hu f hfm)
        simp [sizeOf, typeInfo, hi, g, Program.cellsOf]
      obtain ⟨arr', k1, k2⟩ := fill_ok (φ := φ) (place := placeF tab.ty l) (placeC := ((fs.map g)[·]?)) (ρ := ρ) (fun k x hk => by
        unfold placeF at hk
        split at hk
        · rename_i o t' hfa
          unfold szO at hk
          split at hk
          · rename_i j hj
            cases hk
            obtain ⟨fd, e1, rfl, rfl⟩ := field_of hl hfa
            obtain ⟨inf, i1, i2, _⟩ := (hA.ty _ j hj).info
            show (fs.map g)[k]? = _
            rw [Array.getElem?_map, e1]
            simp [g, Program.cellsOf, i1, i2]
          · cases hk
        · cases hk) parts.toList _ z.cells cs hf hzv.cells hx
      refine ⟨.agg arr', ?_, by simp only [VR]; exact ⟨arr'.toList, rfl, k2⟩, rfl⟩
      simp only [Instr.build, Sem.run_bind, hz, Result.andThen_ok, run_und hu, hpl, Array.toList_map]
      rw [k1]
      simp
    | array n e =>
      rw [htd] at h
      simp only [] at h
      have hu := hT.array htd
      cases hj : tab.ty e with
      | none => rw [hj] at h; simp [dBuildA] at h
      | some j =>
        rw [hj] at h
        simp only [dBuildA] at h
        obtain ⟨cs, hf, rfl, rfl⟩ := aggR_some h
        obtain ⟨arr', k1, k2⟩ := fill_ok (φ := φ) (place := placeE j.size) (placeC := fun i => some (i * j.size, j.size)) (ρ := ρ) (fun k x hk => hk) parts.toList _ z.cells cs hf hzv.cells hx
        refine ⟨.agg arr', ?_, by simp only [VR]; exact ⟨arr'.toList, rfl, k2⟩, rfl⟩
        simp only [Instr.build, Sem.run_bind, hz, Result.andThen_ok, run_und hu, (hA.ty e j hj).run_size, Array.toList_map]
        rw [k1]
        simp
    | _ => rw [htd] at h; simp at h
theorem elemTy_some {o : Option TyI} {j : TyI} (h : elemTy tab.ty o = some j) : ∃ i e, o = some i ∧ i.td = .slice e ∧ tab.ty e = some j := by
  cases o with
  | none => simp [elemTy] at h
  | some i =>
    simp only [elemTy] at h
    cases htd : i.td <;> rw [htd] at h <;> simp only [] at h <;> first | (cases h; done) | exact ⟨i, _, rfl, htd, h⟩
theorem sliceR_some {n m : Nat} {x : Option (List AV)} (h : sliceR E M n m x = some (v, M')) : ∃ cs, x = some cs ∧ cs.all AV.isCell = true ∧ v = .slice (E.m0 + M.n) 0 n m 0 ∧ M' = M.push (.cells cs) := by
  cases x with
  | none => simp [sliceR] at h
  | some cs =>
    simp only [sliceR] at h
    cases hb : cs.all AV.isCell with
    | false => rw [hb] at h; cases h
    | true => rw [hb] at h; cases h; exact ⟨cs, rfl, hb, rfl, rfl⟩
theorem fillA_length {place : Nat → Option (Nat × Nat)} {T : Tbl AV} : ∀ (parts : List (Nat × Operand)) (cs cs' : List AV), fillA place T parts (some cs) = some cs' → cs'.length = cs.length
  | [], cs, cs', h => by simp only [fillA, Option.some.injEq] at h; subst h; rfl
  | (i, x) :: rest, cs, cs', h => by
    simp only [fillA] at h
    cases h1 : fill1 cs (opd T x) (place i) with
    | none => rw [h1] at h; cases rest <;> simp [fillA] at h
    | some c2 =>
      rw [h1] at h
      rw [fillA_length rest c2 cs' h]
      cases hpl : place i with
      | none => rw [hpl] at h1; simp [fill1] at h1
      | some os =>
        obtain ⟨o, s⟩ := os
        rw [hpl] at h1
        cases hxo : opd T x with
        | none => rw [hxo] at h1; simp [fill1] at h1
        | some u =>
          rw [hxo] at h1
          simp only [fill1] at h1
          cases hb : (Nat.beq u.cells.length s && Nat.ble (o + s) cs.length) with
          | false => rw [hb] at h1; cases h1
          | true =>
            rw [hb, cond_true, Option.some.injEq] at h1
            subst h1
            simp only [Bool.and_eq_true] at hb
            have hs := beqT hb.1
            have hle := bleT hb.2
            simp only [splice, List.length_append, List.length_take, List.length_drop]
            omega
theorem buildSlice_ok (hA : At P tab E w0 φ H w) (hfree : M.n < M'.n → φ (E.m0 + M.n) = none) {t len : Nat} {T : Tbl AV} {ρ : Operand → Value} {parts : Array (Nat × Operand)} (h : dBuildSlice E T M len parts.toList (elemTy tab.ty (tab.ty t)) = some (v, M'))
    (hx : ∀ p ∈ parts.toList, OV φ (opd T p.2) (ρ p.2)) {W : List Nat} : Good w w0 φ H E M ((Instr.buildSlice t len (parts.map fun (i, x) => (i, ρ x)) >>= fun y => (Pure.pure (Next.value y) : Sem Next)).run P w) v M' W := by
  cases he : elemTy tab.ty (tab.ty t) with
  | none => rw [he] at h; simp [dBuildSlice] at h
  | some j =>
    obtain ⟨i, e, hi, htd, hj⟩ := elemTy_some he
    have hT := hA.ty t i hi
    have hTe := hA.ty e j hj
    have hu := hT.slice htd
    obtain ⟨z, hz, hzv⟩ := hTe.zero_cells φ
    rw [he] at h
    simp only [dBuildSlice] at h
    cases hb : (Nat.ble (len * j.size) 65536 && Nat.beq j.zero.cells.length j.size) with
    | false => rw [hb] at h; cases h
    | true =>
      rw [hb, cond_true] at h
      simp only [Bool.and_eq_true] at hb
      have h1 := bleT hb.1
      have h2 := beqT hb.2
      obtain ⟨cs, hf, hall, rfl, rfl⟩ := sliceR_some h
      have hzz := zeros_ok hzv.cells len (len * j.size) (by rw [h2])
      obtain ⟨arr', k1, k2⟩ := fill_ok (φ := φ) (place := placeE j.size) (placeC := fun i => some (i * j.size, j.size)) (ρ := ρ) (fun k x hk => hk) parts.toList _ _ cs hf hzz hx
      have hlen : arr'.toList.length = len * j.size := by
        rw [k2.length, fillA_length _ _ _ hf, repl_length, h2]
      have hrun : (Instr.buildSlice t len (parts.map fun (i, x) => (i, ρ x)) >>= fun y => (Pure.pure (Next.value y) : Sem Next)).run P w = .ok (.value (.slice (some ⟨w.heap.size, 0, none⟩) len len)) (w.alloc (.cells (arr'.toList ++ []).toArray e)) := by
        simp only [Instr.buildSlice, Sem.run_bind, run_und hu, Result.andThen_ok, hTe.run_size]
        rw [if_neg (by omega)]
        by_cases h0 : len * j.size = 0
        · have em : ∀ f : Nat → Value, (Array.range (len * j.size)).map f = #[] := fun f => by rw [h0]; simp
          rw [em] at k1
          simp only [if_pos h0, Sem.run_pure, Result.andThen_ok, Sem.run_bind, em, Array.toList_map]
          rw [k1]
          simp [Go.newRow]
        · simp only [h0, if_false, Sem.run_bind, hz, Result.andThen_ok, Sem.run_pure, Array.toList_map]
          rw [k1]
          simp [Go.newRow]
      rw [hrun]
      refine Good.push (l := []) (e := e) (ext := arr'.toList.length) (w1 := w) hA.inv (hfree (Nat.lt_succ_self _)) k2 (by simp) ?_ rfl (Below.refl _ _)
      simp only [VR]
      exact ⟨_, _, _, len, Phi.upd_same _ _ _, rfl, Nat.le_refl _, Nat.le_refl _, fun _ => rfl, fun h => absurd h (by omega)⟩
end
end Go.Sx
/- S, ninth text: the operations, one by one (5): make, conversions, cuts, len, cap, min, max, clear. -/
namespace Go.Sx
open Go.RowKit
section
variable {P : Program} {tab : Tab} {E : Env} {w0 : World} {φ : Phi} {H : Heap} {w : World} {M M' : Mem} {v : AV}

theorem wrap_nat {n : Nat} (h : n ≤ 9223372036854775807) : IntKind.i64.wrap (n : Int) = n := IntWalk.i64_in _ (by omega)
theorem makeSlice_ok (hA : At P tab E w0 φ H w) (hfree : M.n < M'.n → φ (E.m0 + M.n) = none) {t : Nat} {x u : Option AV} {y z : Value} (h : dMake E M (natO x) (natO u) (elemTy tab.ty (tab.ty t)) = some (v, M')) (hx : OV φ x y) (hu : OV φ u z) {W : List Nat} :
    Good w w0 φ H E M ((Instr.makeSlice t y z >>= fun y => (Pure.pure (Next.value y) : Sem Next)).run P w) v M' W := by
  cases he : elemTy tab.ty (tab.ty t) with
  | none => rw [he] at h; simp [dMake] at h
  | some j =>
    obtain ⟨i, e, hi, htd, hj⟩ := elemTy_some he
    have hT := hA.ty t i hi
    have hTe := hA.ty e j hj
    have hud := hT.slice htd
    obtain ⟨q, hq, hqv⟩ := hTe.zero_cells φ
    rw [he] at h
    cases hn : natO x with
    | none => rw [hn] at h; simp [dMake] at h
    | some n => cases hm : natO u with
      | none => rw [hn, hm] at h; simp [dMake] at h
      | some m =>
        rw [hn, hm] at h
        simp only [dMake] at h
        cases hb : (Nat.ble n m && Nat.ble m 1048576 && Nat.ble j.bytes 65536 && Nat.beq j.zero.cells.length j.size) with
        | false => rw [hb] at h; cases h
        | true =>
          rw [hb, cond_true] at h
          simp only [Bool.and_eq_true] at hb
          obtain ⟨⟨⟨b1, b2⟩, b3⟩, b4⟩ := hb
          have h1 := bleT b1
          have h2 := bleT b2
          have h3 := bleT b3
          have h4 := beqT b4
          obtain ⟨k1, rfl⟩ := natO_OV hn hx
          obtain ⟨k2, rfl⟩ := natO_OV hm hu
          obtain ⟨cs, hcs, hall, rfl, rfl⟩ := sliceR_some h
          simp only [Option.some.injEq] at hcs
          subst hcs
          have hzz := zeros_ok hqv.cells m (m * j.size) (by rw [h4])
          obtain ⟨inf, i1, i3, i2, q', i4, i5⟩ := hTe.info
          obtain rfl : q' = q := by
            have := hq w
            simp only [zeroValue, Sem.run_bind, typeInfo, run_program, Result.andThen_ok, i1, i4, Sem.run_pure] at this
            injection this
          have hbm : inf.bytes * m ≤ 281474976710656 := by
            rw [i2]
            have := Nat.mul_le_mul h3 h2
            omega
          have hrun : (Instr.makeSlice t (.int k1 n) (.int k2 m) >>= fun y => (Pure.pure (Next.value y) : Sem Next)).run P w =
              .ok (.value (.slice (some ⟨w.heap.size, 0, none⟩) n m)) (w.alloc (.cells (((Array.range (m * j.size)).map (q'.cells[· % q'.cells.size]!)).toList ++ []).toArray e)) := by
            rw [run_value _ _ _ (run_make w t e inf q' hud i1 i4 k1 k2 n m (by omega) (by omega) (by
              have : ((inf.bytes * m : Nat) : Int) ≤ 281474976710656 := by omega
              rw [Int.natCast_mul] at this; exact this) (by omega))]
            have ea : ∀ (a : Array Value), (a.toList ++ []).toArray = a := fun a => by simp
            rw [ea]
            simp [madeCells, i3]
          rw [hrun]
          refine Good.push (l := []) (e := e) (ext := m * j.size) (w1 := w) hA.inv (hfree (Nat.lt_succ_self _)) hzz (by simp) ?_ rfl (Below.refl _ _)
          simp only [VR]
          exact ⟨_, _, _, m, Phi.upd_same _ _ _, rfl, h1, Nat.le_refl _, fun _ => rfl, fun h => absurd h (by omega)⟩

/-! #### conversions -/
theorem conv_ok (hA : At P tab E w0 φ H w) {s d : Nat} {x : Option AV} {y : Value} (h : dConv M x (zeroO (tab.ty s)) (zeroO (tab.ty d)) = some (v, M')) (hx : OV φ x y) : ∃ vC, (convert s d y).run P w = .ok vC w ∧ VR φ v vC ∧ M' = M := by
  cases hs : tab.ty s with
  | none => rw [hs] at h; simp [zeroO, dConv] at h
  | some i => cases hd : tab.ty d with
    | none => rw [hs, hd] at h; simp [zeroO, dConv] at h
    | some j =>
      rw [hs, hd] at h
      simp only [zeroO, dConv] at h
      cases x with
      | none => simp at h
      | some u =>
        cases u <;> simp only [] at h <;> first | (cases h; done) | skip
        rename_i k n
        cases hz : j.zero <;> rw [hz] at h <;> simp only [convA] at h <;> first | (cases h; done) | skip
        rename_i kd nd
        cases hz2 : i.zero <;> rw [hz2] at h <;> simp only [] at h <;> first | (cases h; done) | skip
        rename_i ks ns
        cases h
        have hu1 := (hA.ty d j hd).int _ _ hz
        have hu2 := (hA.ty s i hs).int _ _ hz2
        have hy := hx.get rfl
        simp only [VR] at hy
        subst hy
        exact ⟨.int kd (kd.wrap n), by simp [convert, run_und hu1, run_und hu2, Conv.intToInt], by simp [VR, wr_eq], rfl⟩

/-! #### cuts -/
theorem bnd_some {x : Option AV} {dflt top n : Nat} (h : bnd x dflt top = some n) : (x = none ∧ n = dflt) ∨ (∃ u, x = some u ∧ nat? u = some n ∧ n ≤ top) := by
  cases x with
  | none => simp only [bnd, Option.some.injEq] at h; exact .inl ⟨rfl, h.symm⟩
  | some u =>
    simp only [bnd] at h
    cases hn : nat? u with
    | none => rw [hn] at h; simp [bndN] at h
    | some k =>
      rw [hn] at h
      simp only [bndN] at h
      cases hb : Nat.ble k top with
      | false => rw [hb] at h; cases h
      | true => rw [hb] at h; cases h; exact .inr ⟨u, rfl, hn, bleT hb⟩
/-- The bounds of a cut, as the world's operands have them. -/
def OVO (φ : Phi) (x : Option AV) (y : Option Value) : Prop := (x = none ∧ y = none) ∨ ∃ u z, x = some u ∧ y = some z ∧ VR φ u z
theorem run_bound {u : AV} {n : Nat} (hn : nat? u = some n) {z : Value} (hz : VR φ u z) {top : Nat} (hle : n ≤ top) (code : BoundsCode) : (Instr.sliceBound z top code).run P w = .ok n w := by
  obtain ⟨k, rfl⟩ := nat?_VR hn hz
  have h0 : (0 : Int) ≤ (n : Int) ∧ (n : Int) ≤ (top : Int) := by omega
  simp [Instr.sliceBound, asIntOf, hle]
/-- The bounds: cap is what S knows of the capacity, cap' the world's own. -/
theorem bounds_ok {isSlice : Bool} {len cap cap' m h l : Nat} {lo hi mx : Option AV} {lo' hi' mx' : Option Value} (hlo : OVO φ lo lo') (hhi : OVO φ hi hi') (hmx : OVO φ mx mx') (hc : cap ≤ cap')
    (hm : bnd mx cap cap = some m) (hh : bnd hi len m = some h) (hl : bnd lo 0 h = some l) (hno : hi = none → mx = none) :
    (Instr.sliceBounds isSlice len cap' lo' hi' mx').run P w = .ok (l, h, if mx = none then cap' else m) w ∧ (mx = none → m = cap) ∧ m ≤ cap := by
  have e3 : (lo' = none ∧ l = 0) ∨ ∃ z', lo' = some z' ∧ ∀ code, (Instr.sliceBound z' h code).run P w = .ok l w := by
    rcases hlo with ⟨rfl, rfl⟩ | ⟨u, z, rfl, rfl, hz⟩
    · rcases bnd_some hl with ⟨_, rfl⟩ | ⟨u, hu, _⟩
      · exact .inl ⟨rfl, rfl⟩
      · cases hu
    · rcases bnd_some hl with ⟨hu, _⟩ | ⟨u', hu, hn, hle⟩
      · cases hu
      · cases hu; exact .inr ⟨z, rfl, fun code => run_bound hn hz hle code⟩
  rcases hmx with ⟨rfl, rfl⟩ | ⟨um, zm, rfl, rfl, hzm⟩
  · rcases bnd_some hm with ⟨_, rfl⟩ | ⟨u, hu, _⟩
    · refine ⟨?_, fun _ => rfl, Nat.le_refl _⟩
      rcases hhi with ⟨rfl, rfl⟩ | ⟨u, z, rfl, rfl, hz⟩
      · rcases bnd_some hh with ⟨_, rfl⟩ | ⟨u, hu, _⟩
        · simp only [Instr.sliceBounds, Sem.run_bind, Sem.run_pure, Result.andThen_ok]
          rcases e3 with ⟨rfl, rfl⟩ | ⟨z', rfl, e3⟩
          · simp
          · simp [e3]
        · cases hu
      · rcases bnd_some hh with ⟨hu, _⟩ | ⟨u', hu, hn, hle⟩
        · cases hu
        · cases hu
          simp only [Instr.sliceBounds, Sem.run_bind, Sem.run_pure, Result.andThen_ok, run_bound hn hz (Nat.le_trans hle hc)]
          rcases e3 with ⟨rfl, rfl⟩ | ⟨z', rfl, e3⟩
          · simp
          · simp [e3]
    · cases hu
  · rcases bnd_some hm with ⟨hu, _⟩ | ⟨u, hu, hn, hle⟩
    · cases hu
    · cases hu
      refine ⟨?_, by simp, hle⟩
      rcases hhi with ⟨rfl, rfl⟩ | ⟨u', z, rfl, rfl, hz⟩
      · cases hno rfl
      · rcases bnd_some hh with ⟨hu, _⟩ | ⟨u2, hu, hn2, hle2⟩
        · cases hu
        · cases hu
          simp only [Instr.sliceBounds, Sem.run_bind, Sem.run_pure, Result.andThen_ok, run_bound hn hzm (Nat.le_trans hle hc), run_bound hn2 hz hle2]
          rcases e3 with ⟨rfl, rfl⟩ | ⟨z', rfl, e3⟩
          · simp
          · simp [e3]
theorem cut_some {b o s len cap q : Nat} {lo hi mx : Option AV} {r : AV} (h : cut b o s len cap q lo hi mx = some r) : ∃ m hh l, bnd mx cap cap = some m ∧ bnd hi len m = some hh ∧ bnd lo 0 hh = some l ∧ (hi = none → mx = none) ∧
    ((m = l ∧ q3 q mx = 0 ∧ r = .slice b o 0 0 0) ∨ (m = l ∧ q3 q mx ≠ 0 ∧ r = .emp false) ∨ (m ≠ l ∧ r = .slice b (o + l * s) (hh - l) (m - l) (q3 q mx))) := by
  unfold cut at h
  cases hb : (isNone? hi && !isNone? mx) with
  | true => rw [hb] at h; cases h
  | false =>
    rw [hb, cond_false] at h
    have hno : hi = none → mx = none := by
      intro e; subst e
      cases mx with
      | none => rfl
      | some u => simp [isNone?] at hb
    cases hm : bnd mx cap cap with
    | none => rw [hm] at h; simp [cut1] at h
    | some m =>
      rw [hm] at h
      simp only [cut1] at h
      cases hh : bnd hi len m with
      | none => rw [hh] at h; simp [cut2] at h
      | some k =>
        rw [hh] at h
        simp only [cut2] at h
        cases hl : bnd lo 0 k with
        | none => rw [hl] at h; simp [cut3] at h
        | some l =>
          rw [hl] at h
          simp only [cut3] at h
          refine ⟨m, k, l, rfl, hh, hl, hno, ?_⟩
          cases h1 : Nat.beq m l with
          | true =>
            rw [h1, cond_true] at h
            cases h2 : Nat.beq (q3 q mx) 0 with
            | true => rw [h2] at h; cases h; exact .inl ⟨beqT h1, beqT h2, rfl⟩
            | false => rw [h2] at h; cases h; exact .inr (.inl ⟨beqT h1, beqN h2, rfl⟩)
          | false => rw [h1] at h; cases h; exact .inr (.inr ⟨beqN h1, rfl⟩)
/-- What the world's cut comes to. -/
theorem cut_VR {b o s len cap q : Nat} {lo hi mx : Option AV} {r : AV} (h : cut b o s len cap q lo hi mx = some r) {g base ext cap' : Nat} (hφ : φ b = some (g, base, ext)) (hlc : len ≤ cap) (hcc : cap ≤ cap') (hq : q = 0 → cap' = cap)
    (hqe : 0 < q → o + cap' * q ≤ ext ∧ q = s) {m hh l : Nat} (hm : bnd mx cap cap = some m) (hhi : bnd hi len m = some hh) (hl : bnd lo 0 hh = some l) (hmc : m ≤ cap) (hmx : mx = none → m = cap) :
    VR φ r (.slice (some (if (if mx = none then cap' else m) = l then ⟨g, base + o, none⟩ else (⟨g, base + o, none⟩ : Addr).add (l * s))) (hh - l) ((if mx = none then cap' else m) - l)) := by
  obtain ⟨m', hh', l', e1, e2, e3, _, hr⟩ := cut_some h
  rw [hm] at e1; cases e1
  rw [hhi] at e2; cases e2
  rw [hl] at e3; cases e3
  have hlh : l ≤ hh := by
    rcases bnd_some hl with ⟨_, rfl⟩ | ⟨_, _, _, hle⟩
    · omega
    · exact hle
  have hhm : hh ≤ m := by
    rcases bnd_some hhi with ⟨hnone, rfl⟩ | ⟨_, _, _, hle⟩
    · rcases bnd_some hm with ⟨_, rfl⟩ | ⟨u, rfl, _, _⟩
      · exact hlc
      · obtain ⟨_, _, _, k1, k2, k3, hno, _⟩ := cut_some h
        cases hno hnone
    · exact hle
  rw [add_at]
  rcases hr with ⟨rfl, hq0, rfl⟩ | ⟨rfl, hq0, rfl⟩ | ⟨hne, rfl⟩
  · have hmm : (if mx = none then cap' else m) = m := by
      cases mx with
      | none => simp only [if_true]; simp only [q3] at hq0; rw [hq hq0, hmx rfl]
      | some u => simp
    rw [hmm, if_pos rfl]
    simp only [VR]
    exact ⟨g, base, ext, 0, hφ, by rw [show hh - m = 0 by omega, Nat.sub_self], Nat.le_refl _, Nat.le_refl _, fun _ => rfl, fun h => absurd h (by omega)⟩
  · simp only [VR]
    exact ⟨_, _, by rw [show hh - m = 0 by omega], fun h => by cases h⟩
  · have hmm : (if mx = none then cap' else m) ≠ l := by
      cases mx with
      | none => simp only [if_true]; have := hmx rfl; omega
      | some u => simpa using hne
    rw [if_neg hmm]
    simp only [VR]
    refine ⟨g, base, ext, _, hφ, by rw [Nat.add_assoc], by omega, ?_, ?_, ?_⟩
    · cases mx with
      | none => simp only [if_true]; have := hmx rfl; omega
      | some u => simp
    · intro hq0
      cases mx with
      | none => simp only [if_true, q3] at hq0 ⊢; rw [hq hq0, hmx rfl]
      | some u => simp
    · intro hq0
      cases mx with
      | none =>
        simp only [if_true, q3] at hq0 ⊢
        obtain ⟨k1, k2⟩ := hqe hq0
        subst k2
        have hl' : l ≤ cap' := by have := hmx rfl; omega
        have : l * q + (cap' - l) * q = cap' * q := by rw [← Nat.add_mul]; congr 1; omega
        omega
      | some u => simp [q3] at hq0
theorem if_some (X l : Nat) (a : Addr) (f : Addr → Addr) : (if X = l then some a else (some a).map f) = some (if X = l then a else f a) := by split <;> rfl
theorem slice_ok (hA : At P tab E w0 φ H w) {t : Nat} {x : Option AV} {y : Value} {lo hi mx : Option AV} {lo' hi' mx' : Option Value} (h : dSlice1 tab.ty M x lo hi mx (tab.ty t) = some (v, M')) (hx : OV φ x y)
    (hlo : OVO φ lo lo') (hhi : OVO φ hi hi') (hmx : OVO φ mx mx') : ∃ vC, (Instr.sliceAt t y lo' hi' mx').run P w = .ok vC w ∧ VR φ v vC ∧ M' = M := by
  cases hty : tab.ty t with
  | none => rw [hty] at h; simp [dSlice1] at h
  | some i =>
    have hT := hA.ty t i hty
    rw [hty] at h
    cases x with
    | none => simp [dSlice1] at h
    | some u =>
      have hp := hx.get rfl
      simp only [dSlice1] at h
      cases htd : i.td with
      | slice e =>
        rw [htd] at h
        simp only [] at h
        obtain ⟨hr, rfl⟩ := d1_some h
        have hud := hT.slice htd
        have hrun : (Instr.sliceAt t y lo' hi' mx').run P w = (Instr.slice t y lo' hi' mx').run P w := by simp [Instr.sliceAt, run_und hud]
        cases hj : tab.ty e with
        | none => rw [hj] at hr; simp [cutS] at hr
        | some j =>
          have hTe := hA.ty e j hj
          rw [hj] at hr
          simp only [cutS] at hr
          cases u <;> simp only [] at hr <;> first | (cases hr; done) | skip
          case slice b o n c q =>
            cases hqb : (Nat.beq q 0 || Nat.beq q j.size) with
            | false => rw [hqb] at hr; cases hr
            | true =>
              rw [hqb, cond_true] at hr
              simp only [VR] at hp
              obtain ⟨g, base, ext, c', hφ, rfl, k1, k2, k3, k4⟩ := hp
              obtain ⟨m, hh, l, e1, e2, e3, hno, _⟩ := cut_some hr
              obtain ⟨b1, b2, b3⟩ := bounds_ok (P := P) (w := w) (isSlice := true) hlo hhi hmx k2 e1 e2 e3 hno
              refine ⟨_, ?_, cut_VR hr hφ k1 k2 k3 (fun hq => ⟨k4 hq, ?_⟩) e1 e2 e3 b3 b2, rfl⟩
              · rw [hrun]
                simp only [Instr.slice, Sem.run_bind, run_und hud, Result.andThen_ok, b1, hTe.run_size, Sem.run_pure]
                rw [if_some]
              · simp only [Bool.or_eq_true] at hqb
                rcases hqb with hqb | hqb
                · have := beqT hqb; omega
                · exact beqT hqb
          case nils =>
            simp only [VR] at hp
            subst hp
            cases hb : ((!isNone? hi || isNone? mx) && someN (bnd mx 0 0) && someN (bnd hi 0 0) && someN (bnd lo 0 0)) with
            | false => simp only [cutNil, hb] at hr; cases hr
            | true =>
              simp only [cutNil, hb, cond_true, Option.some.injEq] at hr
              subst hr
              simp only [Bool.and_eq_true] at hb
              obtain ⟨⟨⟨h0, h1⟩, h2⟩, h3⟩ := hb
              obtain ⟨m, e1⟩ : ∃ m, bnd mx 0 0 = some m := by cases hq : bnd mx 0 0 <;> simp_all [someN]
              have m0 : m = 0 := by rcases bnd_some e1 with ⟨_, rfl⟩ | ⟨_, _, _, hle⟩ <;> omega
              subst m0
              obtain ⟨hh, e2⟩ : ∃ m, bnd hi 0 0 = some m := by cases hq : bnd hi 0 0 <;> simp_all [someN]
              have m0 : hh = 0 := by rcases bnd_some e2 with ⟨_, rfl⟩ | ⟨_, _, _, hle⟩ <;> omega
              subst m0
              obtain ⟨l, e3⟩ : ∃ m, bnd lo 0 0 = some m := by cases hq : bnd lo 0 0 <;> simp_all [someN]
              have m0 : l = 0 := by rcases bnd_some e3 with ⟨_, rfl⟩ | ⟨_, _, _, hle⟩ <;> omega
              subst m0
              have hno : hi = none → mx = none := by
                intro e; subst e
                cases mx with
                | none => rfl
                | some u => simp [isNone?] at h0
              obtain ⟨b1, b2, b3⟩ := bounds_ok (P := P) (w := w) (isSlice := true) (cap' := 0) hlo hhi hmx (Nat.le_refl _) e1 e2 e3 hno
              refine ⟨.slice none 0 0, ?_, by simp [VR], rfl⟩
              rw [hrun]
              simp only [Instr.slice, Sem.run_bind, run_und hud, Result.andThen_ok, b1, hTe.run_size, Sem.run_pure]
              simp
          case emp z =>
            simp only [VR] at hp
            obtain ⟨a, c, rfl, hc0⟩ := hp
            cases hb : ((!isNone? hi || isNone? mx) && someN (bnd mx 0 0) && someN (bnd hi 0 0) && someN (bnd lo 0 0)) with
            | false => simp only [cutEmp, hb] at hr; cases hr
            | true =>
              simp only [cutEmp, hb, cond_true, Option.some.injEq] at hr
              subst hr
              simp only [Bool.and_eq_true] at hb
              obtain ⟨⟨⟨h0, h1⟩, h2⟩, h3⟩ := hb
              obtain ⟨m, e1⟩ : ∃ m, bnd mx 0 0 = some m := by cases hq : bnd mx 0 0 <;> simp_all [someN]
              have m0 : m = 0 := by rcases bnd_some e1 with ⟨_, rfl⟩ | ⟨_, _, _, hle⟩ <;> omega
              subst m0
              obtain ⟨hh, e2⟩ : ∃ m, bnd hi 0 0 = some m := by cases hq : bnd hi 0 0 <;> simp_all [someN]
              have m0 : hh = 0 := by rcases bnd_some e2 with ⟨_, rfl⟩ | ⟨_, _, _, hle⟩ <;> omega
              subst m0
              obtain ⟨l, e3⟩ : ∃ m, bnd lo 0 0 = some m := by cases hq : bnd lo 0 0 <;> simp_all [someN]
              have m0 : l = 0 := by rcases bnd_some e3 with ⟨_, rfl⟩ | ⟨_, _, _, hle⟩ <;> omega
              subst m0
              have hno : hi = none → mx = none := by
                intro e; subst e
                cases mx with
                | none => rfl
                | some u => simp [isNone?] at h0
              obtain ⟨b1, b2, b3⟩ := bounds_ok (P := P) (w := w) (isSlice := true) (cap := 0) (cap' := c) (len := 0) (m := 0) hlo hhi hmx (Nat.zero_le _) e1 e2 e3 hno
              rw [hrun]
              refine ⟨.slice (some (if (if mx = none then c else 0) = 0 then a else a.add (0 * j.size))) 0 (if mx = none then c else 0), ?_, ?_, rfl⟩
              · simp only [Instr.slice, Sem.run_bind, run_und hud, Result.andThen_ok, b1, hTe.run_size, Sem.run_pure]
                rw [if_some]; simp
              · simp only [VR]
                refine ⟨_, _, rfl, fun hz => ?_⟩
                cases mx with
                | none => simp [isNone?] at hz; simp [hc0 hz]
                | some u => simp
      | array n e =>
        rw [htd] at h
        simp only [] at h
        obtain ⟨hr, rfl⟩ := d1_some h
        have hud := hT.array htd
        cases hj : tab.ty e with
        | none => rw [hj] at hr; simp [cutA] at hr
        | some j =>
          have hTe := hA.ty e j hj
          rw [hj] at hr
          simp only [cutA] at hr
          cases u <;> simp only [] at hr <;> first | (cases hr; done) | skip
          rename_i b o
          simp only [VR] at hp
          obtain ⟨g, base, ext, hφ, rfl⟩ := hp
          obtain ⟨m, hh, l, e1, e2, e3, hno, _⟩ := cut_some hr
          obtain ⟨b1, b2, b3⟩ := bounds_ok (P := P) (w := w) (isSlice := false) hlo hhi hmx (Nat.le_refl n) e1 e2 e3 hno
          refine ⟨_, ?_, cut_VR hr hφ (Nat.le_refl _) (Nat.le_refl _) (fun _ => rfl) (fun hq => absurd hq (by omega)) e1 e2 e3 b3 b2, rfl⟩
          simp only [Instr.sliceAt, Instr.sureAddr, Sem.run_bind, run_und hud, Result.andThen_ok, b1, hTe.run_size, Sem.run_pure]
      | _ => rw [htd] at h; simp at h
end
end Go.Sx
/- S, tenth text: the operations, one by one (6): append. -/
namespace Go.Sx
open Go.RowKit
section
variable {P : Program} {tab : Tab} {E : Env} {w0 : World} {φ : Phi} {H : Heap} {w : World} {M M' : Mem} {v : AV}

/-- What is appended. -/
inductive SrcR (P : Program) (w : World) (e size u : Nat) : Value → Nat → List Value → Prop
  | row (base : Option Addr) (n cap : Nat) (news : List Value) (hu : ∃ e', P.underlying u = some (.slice e')) (hf : ∀ w' : World, w'.heap = w.heap → (Builtin.firstCells size n (.slice base n cap)).run P w' = .ok news.toArray w') : SrcR P w e size u (.slice base n cap) n news
  | count (k : IntKind) (n : Nat) (z : Value) (hu : ∃ k', P.underlying u = some (.int k')) (hn : n ≤ 1048576) (hz : ∀ w', (zeroValue e).run P w' = .ok z w') (hsz : z.cells.size = size) :
      SrcR P w e size u (.int k n) n (Builtin.zeroCells z.cells n).toList
theorem zeroCells_none (z : Array Value) (n : Nat) (h : n * z.size = 0) : Builtin.zeroCells z n = #[] := by unfold Builtin.zeroCells; rw [h]; simp
theorem run_append_src_room {ts : Array TypeId} {ty t u e size sLen sCap n2 : Nat} {base : Option Addr} {x : Value} {news : List Value} {inf : TypeInfo} (ht : P.underlying t = some (.slice e)) (hi : P.info? e = some inf) (hsz : inf.size = size)
    (hsrc : SrcR P w e size u x n2 news) (hb : n2 * inf.bytes ≤ 281474976710656) (h0 : ts[0]? = some t) (h1 : ts[1]? = some u) (hroom : sLen + n2 ≤ sCap) :
    (Builtin.append_ ts ty #[.slice base sLen sCap, x]).run P w =
      ((match base with | some a => storeCells (a.add (sLen * size)) news | none => (Pure.pure () : Sem Unit)).run P w).andThen (fun _ w' => .ok (.slice base (sLen + n2) sCap) w') := by
  subst hsz
  cases hsrc with
  | row base' n cap news hu hf =>
    obtain ⟨e', hu⟩ := hu
    have hf' := hf w rfl
    simp [Builtin.append_, h0, h1, run_und ht, run_und hu, sizeOf, typeInfo, hi, Builtin.lenOf, hroom, hf']
    cases base with
    | none => rfl
    | some a => simp only [Sem.run_map]
  | count k n z hu hn hz hsz =>
    obtain ⟨k', hu⟩ := hu
    have hw : IntKind.i64.wrap ((n2 : Nat) : Int) = (n2 : Int) := wrap_nat (by omega)
    have hneg : ¬ ((n2 : Int) < 0) := by omega
    have hcm : ¬ ((281474976710656 : Int) < (n2 : Int) * (inf.bytes : Int)) := by
      rw [← Int.natCast_mul]; omega
    by_cases hz0 : n2 * inf.size = 0
    · have hzc := zeroCells_none z.cells n2 (by rw [hsz]; exact hz0)
      simp [Builtin.append_, h0, h1, run_und ht, run_und hu, sizeOf, typeInfo, hi, asInt, asIntOf, hw, hneg, hroom, hz0, hzc, hcm]
      cases base with
      | none => rfl
      | some a => simp only [Sem.run_map]
    · have hz1 := hz w
      simp [Builtin.append_, h0, h1, run_und ht, run_und hu, sizeOf, typeInfo, hi, asInt, asIntOf, hw, hneg, hroom, hcm, hz1, hz0]
      cases base with
      | none => rfl
      | some a => simp only [Sem.run_map]
theorem run_append_src_grow {ts : Array TypeId} {ty t u e size sLen sCap n2 : Nat} {base : Option Addr} {x : Value} {news olds : List Value} {inf : TypeInfo} {z : Value} (ht : P.underlying t = some (.slice e)) (hi : P.info? e = some inf) (hsz : inf.size = size)
    (hsrc : SrcR P w e size u x n2 news) (hbp : 0 < inf.bytes) (hb : (sLen + n2) * inf.bytes ≤ 140737488355328) (h0 : ts[0]? = some t) (h1 : ts[1]? = some u) (hroom : sCap < sLen + n2) (hsm : sLen + n2 ≤ 1048576)
    (hold : ∀ w' : World, w'.heap = w.heap → (Builtin.firstCells size sLen (.slice base sLen sCap)).run P w' = .ok olds.toArray w') (hzv : inf.zero = some z) :
    ∃ newCap, sLen + n2 ≤ newCap ∧ (Builtin.append_ ts ty #[.slice base sLen sCap, x]).run P w =
      .ok (.slice (some ⟨w.heap.size, 0, none⟩) (sLen + n2) newCap) (w.drew.alloc (.cells (olds ++ news ++ (Builtin.zeroCells z.cells (newCap - (sLen + n2))).toList).toArray e)) := by
  subst hsz
  have hng : ¬ (sLen + n2 ≤ sCap) := by omega
  have hfit := growslice_fits hroom hb
  have hfit' : ¬ (281474976710656 < Builtin.nextslicecap (sLen + n2) sCap * inf.bytes) := by omega
  have h63 : ¬ ((9223372036854775807 : Int) < ((sLen : Int) + (n2 : Int))) := by omega
  have hold' := hold w.drew rfl
  refine ⟨grownCap w (sLen + n2) sCap e, grownCap_ge _ _ _ _, ?_⟩
  have harr : ∀ (zs : Array Value), (olds ++ (news ++ zs.toList)).toArray = olds.toArray ++ news.toArray ++ zs := fun zs => by apply Array.ext'; simp
  cases hsrc with
  | row base' n cap news hu hf =>
    obtain ⟨e', hu⟩ := hu
    have hf' := hf w.drew rfl
    simp [Builtin.append_, h0, h1, run_und ht, run_und hu, sizeOf, typeInfo, hi, hzv, zeroValue, Builtin.lenOf, hng, hfit', h63, Question.forced, hf', hold', Go.newRow, grownCap]
    congr 2; apply Array.ext'; simp
  | count k n z' hu hn hz hsz =>
    obtain ⟨k', hu⟩ := hu
    have hw : IntKind.i64.wrap ((n2 : Nat) : Int) = (n2 : Int) := wrap_nat (by omega)
    have hneg : ¬ ((n2 : Int) < 0) := by omega
    have hcm : ¬ ((281474976710656 : Int) < (n2 : Int) * (inf.bytes : Int)) := by
      rw [← Int.natCast_mul]
      have := Nat.mul_le_mul_right inf.bytes (show n2 ≤ sLen + n2 by omega)
      omega
    by_cases hz0 : n2 * inf.size = 0
    · have hzc := zeroCells_none z'.cells n2 (by rw [hsz]; exact hz0)
      simp [Builtin.append_, h0, h1, run_und ht, run_und hu, sizeOf, typeInfo, hi, asInt, asIntOf, hw, hneg, hng, hz0, hzc, hcm, hfit', h63, Question.forced, hold', Go.newRow, grownCap, zeroValue, hzv]
      congr 2; apply Array.ext'; simp
    · have hzd := hz w.drew
      obtain rfl : z' = z := by
        have := hz w
        simp only [zeroValue, Sem.run_bind, typeInfo, run_program, Result.andThen_ok, hi, hzv, Sem.run_pure] at this
        injection this with this; exact this.symm
      simp [Builtin.append_, h0, h1, run_und ht, run_und hu, sizeOf, typeInfo, hi, asInt, asIntOf, hw, hneg, hng, hz0, hcm, hfit', h63, Question.forced, hold', Go.newRow, grownCap, zeroValue, hzv]
      congr 2; apply Array.ext'; simp

theorem rd_some {b o n : Nat} {l : List AV} (h : rd E M b o n = some l) : ∃ cs, cellsOf E M b = some cs ∧ rdIn o n (some cs) = some l := by
  unfold rd at h
  cases hc : cellsOf E M b with
  | none => rw [hc] at h; simp [rdIn] at h
  | some cs => rw [hc] at h; exact ⟨cs, rfl, h⟩
/-- A stretch that is read, as the world's append has it. -/
theorem first_ok (hA : At P tab E w0 φ H w) {b o n size : Nat} {l : List AV} (h : rd E M b o (n * size) = some l) (hs : Seen E M H b) {g base ext cap : Nat} (hφ : φ b = some (g, base, ext)) :
    ∃ vs, VRL φ l vs ∧ vs.length = n * size ∧ ∀ w' : World, w'.heap = w.heap → (Builtin.firstCells size n (.slice (some ⟨g, base + o, none⟩) n cap)).run P w' = .ok vs.toArray w' := by
  obtain ⟨cs, hc, hr⟩ := rd_some h
  obtain ⟨g', base', ext', hφ', hB⟩ := hA.vis hs hc
  rw [hφ] at hφ'; cases hφ'
  obtain ⟨vs, h1, h2, h3⟩ := hB.read hr
  refine ⟨vs, h1, h2, fun w' hw => run_firstCells_some (P := P) w' size n _ n cap vs h2 (fun j u hu => ?_)⟩
  have := h3 j u hu
  unfold World.cell? at this ⊢
  rw [hw]; exact this
theorem src_ok (hA : At P tab E w0 φ H w) {e u : Nat} {j : TyI} (hTe : TyOK P e j) {x : AV} {x' : Value} {n2 : Nat} {new : List AV} (h : srcOf E M x j = some (n2, new)) (hx : VR φ x x') (hcnt : isCount x (tab.ty u) = true)
    (hs : ∀ b o n c q, x = .slice b o n c q → Seen E M H b) : ∃ news, SrcR P w e j.size u x' n2 news ∧ VRL φ new news ∧ news.length = n2 * j.size := by
  have hrow : ∀ {n : Nat} {v : AV}, (∀ k m, v ≠ .int k m) → isCount v (tab.ty u) = true → ∃ e', P.underlying u = some (.slice e') := by
    intro n v hv hc
    cases hu : tab.ty u with
    | none => rw [hu] at hc; cases v <;> simp [isCount] at hc
    | some i =>
      rw [hu] at hc
      have hT := hA.ty u i hu
      cases htd : i.td <;> cases v <;> simp_all [isCount] <;> exact ⟨_, hT.slice htd⟩
  cases x <;> simp only [srcOf] at h <;> first | (cases h; done) | skip
  case nils =>
    cases h
    obtain ⟨e', hu⟩ := hrow (n := 0) (by intro k m; simp) hcnt
    simp only [VR] at hx; subst hx
    exact ⟨[], .row none 0 0 [] ⟨e', hu⟩ (fun w' _ => by simp [Builtin.firstCells]), VRL.nil, by simp⟩
  case emp =>
    cases h
    obtain ⟨e', hu⟩ := hrow (n := 0) (by intro k m; simp) hcnt
    simp only [VR] at hx
    obtain ⟨a, c, rfl, _⟩ := hx
    exact ⟨[], .row (some a) 0 c [] ⟨e', hu⟩ (fun w' _ => run_firstCells_some (P := P) w' j.size 0 a 0 c [] (by simp) (by simp)), VRL.nil, by simp⟩
  case int k m =>
    cases m <;> simp only [] at h <;> first | (cases h; done) | skip
    rename_i n
    cases hb : (Nat.ble n 1048576 && Nat.beq j.zero.cells.length j.size) with
    | false => rw [hb] at h; cases h
    | true =>
      rw [hb, cond_true, Option.some.injEq, Prod.mk.injEq] at h
      obtain ⟨rfl, rfl⟩ := h
      simp only [Bool.and_eq_true] at hb
      have h1 := bleT hb.1
      have h2 := beqT hb.2
      simp only [VR] at hx; subst hx
      obtain ⟨z, hz, hzv⟩ := hTe.zero_cells φ
      have hzs : z.cells.size = j.size := by have := hzv.cells.length; rw [h2] at this; simpa using this
      cases hu : tab.ty u with
      | none => rw [hu] at hcnt; simp [isCount] at hcnt
      | some i =>
        rw [hu] at hcnt
        have hui : ∃ k', P.underlying u = some (.int k') := by
          cases hz : i.zero <;> simp_all [isCount]
          exact ⟨_, (hA.ty u i hu).int _ _ hz⟩
        refine ⟨_, .count k n z hui h1 hz hzs, ?_, ?_⟩
        · exact zeros_ok hzv.cells n _ (by rw [hzs, h2])
        · simp [Builtin.zeroCells, hzs]
  case slice b o n c q =>
    cases hr : rd E M b o (n * j.size) with
    | none => rw [hr] at h; cases h
    | some cs =>
      rw [hr] at h
      cases h
      obtain ⟨e', hu⟩ := hrow (n := 0) (by intro k m; simp) hcnt
      simp only [VR] at hx
      obtain ⟨g, base, ext, c', hφ, rfl, _⟩ := hx
      obtain ⟨vs, h1, h2, h3⟩ := first_ok hA hr (hs _ _ _ _ _ rfl) hφ (cap := c')
      exact ⟨vs, .row _ _ _ vs ⟨e', hu⟩ h3, h1, h2⟩
/-- A new row. -/
theorem newRow_good (hA : At P tab E w0 φ H w) (hfree : M.n < M'.n → φ (E.m0 + M.n) = none) {nn size newCap e : Nat} {cs : List AV} {vs : List Value} (h : newRow E M nn size cs = some (v, M')) (hvs : VRL φ cs vs) (hlen : vs.length = nn * size) (hs0 : 0 < size) (hcap : nn ≤ newCap)
    {z : Array Value} (hz : z.size = size) {W : List Nat} : Good w w0 φ H E M (.ok (.value (.slice (some ⟨w.heap.size, 0, none⟩) nn newCap)) (w.drew.alloc (.cells (vs ++ (Builtin.zeroCells z (newCap - nn)).toList).toArray e))) v M' W := by
  unfold newRow at h
  cases hb : cs.all AV.isCell with
  | false => rw [hb] at h; cases h
  | true =>
    rw [hb] at h; cases h
    refine Good.push (ext := newCap * size) hA.inv (hfree (Nat.lt_succ_self _)) hvs ?_ ?_ rfl ⟨rfl, rfl, rfl, Nat.le_refl _, fun _ _ => rfl⟩
    · simp only [hlen, Builtin.zeroCells, Array.toList_map, List.length_map, Array.length_toList, Array.size_range, hz]
      rw [← Nat.add_mul]; congr 1; omega
    · simp only [VR]
      exact ⟨_, _, _, newCap, Phi.upd_same _ _ _, rfl, Nat.le_refl _, hcap, fun h => absurd h (by omega), fun _ => by omega⟩
end
end Go.Sx
/- S, text A: append, joined. -/
namespace Go.Sx
open Go.RowKit
section
variable {P : Program} {tab : Tab} {E : Env} {w0 : World} {φ : Phi} {H : Heap} {w : World} {M M' : Mem} {v : AV}

theorem applyUps_at : ∀ (l : Ups) (H1 H2 : Heap) (k : Nat), H1 k = H2 k → applyUps H1 l k = applyUps H2 l k
  | [], _, _, _, h => h
  | (q, o) :: l, H1, H2, k, h => by
    simp only [applyUps]
    refine applyUps_at l _ _ k ?_
    unfold Heap.upd
    split
    · rfl
    · exact h
theorem applyUps_not : ∀ (l : Ups) (H1 : Heap) (k : Nat), (∀ u ∈ l, u.1 ≠ k) → applyUps H1 l k = H1 k
  | [], _, _, _ => rfl
  | (q, o) :: l, H1, k, h => by
    simp only [applyUps]
    rw [applyUps_not l _ _ (fun u hu => h u (by simp [hu]))]
    unfold Heap.upd
    rw [if_neg (fun e => h (q, o) (by simp) e.symm)]
theorem next_good {s : Sem Value} {x : Value} {w' : World} {W : List Nat} (h : s.run P w = .ok x w') (hg : Good w w0 φ H E M (.ok (.value x) w') v M' W) : Good w w0 φ H E M ((s >>= fun y => (Pure.pure (Next.value y) : Sem Next)).run P w) v M' W := by
  rw [run_value _ _ _ h]; exact hg
theorem two_list {xs : Array Value} {a b : Value} (h : xs.toList = [a, b]) : xs = #[a, b] := by apply Array.ext'; simpa using h
theorem VRL.two {a b : AV} {l : List Value} (h : VRL φ [a, b] l) : ∃ x y, l = [x, y] ∧ VR φ a x ∧ VR φ b y := by
  simp only [VRL] at h
  obtain ⟨x, r, rfl, h1, y, r', rfl, h2, rfl⟩ := h
  exact ⟨x, y, rfl, h1, h2⟩
theorem VRL.single {a : AV} {l : List Value} (h : VRL φ [a] l) : ∃ x, l = [x] ∧ VR φ a x := by
  simp only [VRL] at h
  obtain ⟨x, r, rfl, h1, rfl⟩ := h
  exact ⟨x, rfl, h1⟩
theorem storeCells_nil (a : Addr) (w : World) : (storeCells a []).run P w = .ok () w := by simp [storeCells]
/-- The row that ends where the slice ends grows in its own place. -/
theorem grown_in_place (hA : At P tab E w0 φ H w) (hfree : φ (E.m0 + M.n) = none) {b o n n2 c' size : Nat} {cs new : List AV} {news : List Value} (hle : E.m0 ≤ b) (hc : objCells (M.get (b - E.m0)) = some cs) (hs : Seen E M H b)
    {g base ext : Nat} (hφ : φ b = some (g, base, ext)) (hl : cs.length = o + n * size) (hnews : VRL φ new news) (hnl : news.length = n2 * size) (hcell : (cs.drop o ++ new).all AV.isCell = true) (hfit : n + n2 ≤ c') (hext : o + c' * size ≤ ext) (hs0 : 0 < size) :
    ∃ w', (storeCells ((⟨g, base + o, none⟩ : Addr).add (n * size)) news).run P w = .ok () w' ∧
      Good w w0 φ H E M (.ok (.value (.slice (some ⟨g, base + o, none⟩) (n + n2) c')) w') (.slice (E.m0 + M.n) 0 (n + n2) (n + n2) size) (newB E (M.put (b - E.m0) .dead) (cs.drop o ++ new)) [b] := by
  obtain ⟨hH, g', base', ext', hφ', hB, hBlk⟩ := hA.own hs hle hc
  rw [hφ] at hφ'; cases hφ'
  obtain ⟨C, e, fr, h1, h2, h3, h4, h5⟩ := hBlk
  obtain rfl := h5 rfl
  have hmul : (n + n2) * size ≤ c' * size := Nat.mul_le_mul_right _ hfit
  rw [Nat.add_mul] at hmul
  have hbn : b - E.m0 < M.n := objCells_get hc
  have hnel : new.length = n2 * size := by rw [← hnews.length]; exact hnl
  have hall : new.all AV.isCell = true := by
    rw [List.all_append, Bool.and_eq_true] at hcell; exact hcell.2
  have hle' : φ.Le (φ.upd (E.m0 + M.n) (g, base + o, ext - o)) := Phi.upd_le hfree _
  refine ⟨_, by rw [add_at]; exact run_storeCells_at P g (base + o + n * size) e news 0 C w h1 (by omega) (hnews.oneCells hall), ?_⟩
  refine ⟨_, _, _, _, [(b, .dead), (E.m0 + M.n, .cells (cs.drop o ++ new))], rfl, .inl rfl, ?_, hle', ?_, ?_, ?_, ?_, ?_⟩
  · simp only [VR]
    exact ⟨g, base + o, ext - o, c', Phi.upd_same _ _ _, rfl, Nat.le_refl _, hfit, fun h => absurd h (by omega), fun _ => by omega⟩
  · intro k hk
    unfold Phi.upd at hk
    split at hk
    · rename_i e; subst e; simp [newB, Mem.push, Mem.put]
    · exact absurd rfl hk
  · simp only [applyUps]
    refine (hA.inv.kill b).put (n := E.m0 + M.n) (g := g) (base := base + o) (ext := ext - o) ?_ (grownBy_setRow w g _) hB hle' (Phi.upd_same _ _ _) ?_
    · intro b' o' x hne hb hd hx
      unfold Heap.upd at hb
      split at hb
      · cases hb; simp [isDead] at hd
      · rename_i hbb
        exact hA.inv.sep b' b o' (.cells cs) x _ hbb hb hH hd rfl hx hφ
    · refine ⟨g, base + o, ext - o, Phi.upd_same _ _ _, hB, _, e, (0, 0), setRow_heap w g C _ e (0, 0) h1, ?_, ?_, ?_, fun _ => rfl⟩
      · simp; omega
      · simp only [List.length_append, List.length_drop]; omega
      · intro j a ha
        simp only [Nat.add_zero]
        rw [List.getElem?_toArray, List.append_assoc]
        rcases Nat.lt_or_ge j (n * size) with hj | hj
        · rw [List.getElem?_append_left (by simp; omega), List.getElem?_drop] at ha
          obtain ⟨u, k1, k2⟩ := h4 _ a ha
          refine ⟨u, ?_, VR.mono hle' _ _ k2⟩
          rw [List.getElem?_append_left (by simp; omega), List.getElem?_take, if_pos (by omega), Array.getElem?_toList, ← k1]
          congr 1; omega
        · rw [List.getElem?_append_right (by simp; omega)] at ha
          simp only [List.length_drop] at ha
          obtain ⟨u, k1, k2⟩ := hnews.get ha
          refine ⟨u, ?_, VR.mono hle' _ _ k2⟩
          have hlt : j - (cs.length - o) < new.length := (List.getElem?_eq_some_iff.1 ha).1
          rw [List.getElem?_append_right (by simp; omega)]
          simp only [List.length_take, Array.length_toList, Nat.min_eq_left (show base + o + n * size ≤ C.size by omega)]
          rw [List.getElem?_append_left (by omega), ← k1]
          congr 1; omega
  · simp only [applyUps, newB]
    rw [heapOf_push, heapOf_put E M _ _ hbn, show E.m0 + (b - E.m0) = b by omega]
    rfl
  · intro u hu
    simp only [List.mem_cons, List.not_mem_nil, or_false] at hu
    rcases hu with rfl | rfl
    · exact .inl (by simp)
    · exact .inr ⟨Nat.le_refl _, by simp [newB, Mem.push, Mem.put]⟩
  · exact ⟨by simp [newB, Mem.push, Mem.put], KW.of_grown (grownBy_setRow w g _) (fun x hx => by rw [h1] at hx; cases hx)⟩
theorem newRow_put (k : Nat) (o : AObj) (nn size : Nat) (cs : List AV) : newRow E (M.put k o) nn size cs = (bif cs.all AV.isCell then some (.slice (E.m0 + M.n) 0 nn nn size, newB E (M.put k o) cs) else none) := rfl
/-- The row that ends where the slice ends moves. -/
theorem grown_moved (hA : At P tab E w0 φ H w) (hfree : φ (E.m0 + M.n) = none) {b nn size newCap e : Nat} {cs : List AV} {vs : List Value} (hle : E.m0 ≤ b) (hbn : b - E.m0 < M.n) (hall : cs.all AV.isCell = true) (hvs : VRL φ cs vs) (hlen : vs.length = nn * size) (hs0 : 0 < size) (hcap : nn ≤ newCap)
    {z : Array Value} (hz : z.size = size) : Good w w0 φ H E M (.ok (.value (.slice (some ⟨w.heap.size, 0, none⟩) nn newCap)) (w.drew.alloc (.cells (vs ++ (Builtin.zeroCells z (newCap - nn)).toList).toArray e))) (.slice (E.m0 + M.n) 0 nn nn size) (newB E (M.put (b - E.m0) .dead) cs) [b] := by
  have hr : newRow E M nn size cs = some (.slice (E.m0 + M.n) 0 nn nn size, newB E M cs) := by simp [newRow, hall]
  have hA' : At P tab E w0 φ (H.upd b .dead) w := ⟨hA.ty, hA.ro, hA.inv.kill b⟩
  obtain ⟨nx, vC, w', φ', ups, g1, g2, g3, g4, g5, g6, g7, g8, g9⟩ := newRow_good hA' (fun _ => hfree) hr hvs hlen hs0 hcap hz (e := e) (W := [])
  refine ⟨nx, vC, w', φ', (b, .dead) :: ups, g1, g2, g3, g4, g5, ?_, ?_, ?_, g9⟩
  · simpa only [applyUps] using g6
  · simp only [applyUps]
    rw [newB, heapOf_push, heapOf_put E M _ _ hbn, show E.m0 + (b - E.m0) = b by omega]
    have e1 : heapOf E (newB E M cs) = (heapOf E M).upd (E.m0 + M.n) (.cells cs) := heapOf_push _ _ _
    rw [e1] at g7
    funext k
    by_cases hk : k = b
    · subst hk
      have hkn : k ≠ E.m0 + M.n := by omega
      rw [applyUps_not ups _ k (fun u hu => by
        rcases g8 u hu with h | ⟨h, _⟩
        · simp at h
        · omega)]
      simp [Heap.upd, Mem.put, hkn]
    · have := congrFun g7 k
      rw [applyUps_at ups _ (heapOf E M) k (by simp [Heap.upd, hk]), ← this]
      simp [Heap.upd, Mem.put, hk]
  · intro u hu
    rcases List.mem_cons.1 hu with rfl | hu
    · exact .inl (by simp)
    · rcases g8 u hu with h | h
      · simp at h
      · exact .inr (by simpa [newB, Mem.push, Mem.put] using h)

theorem isSl_cases {s : AV} {s' : Value} (h : isSl s = true) (hv : VR φ s s') : ∃ base n c, s' = .slice base n c ∧ n ≤ c := by
  cases s <;> simp only [isSl] at h <;> first | (cases h; done) | skip
  case slice b o n c q =>
    simp only [VR] at hv
    obtain ⟨g, base, ext, c', _, rfl, h1, h2, _⟩ := hv
    exact ⟨_, _, _, rfl, by omega⟩
  case nils => simp only [VR] at hv; subst hv; exact ⟨_, _, _, rfl, Nat.le_refl _⟩
  case emp =>
    simp only [VR] at hv
    obtain ⟨a, c, rfl, _⟩ := hv
    exact ⟨_, _, _, rfl, Nat.zero_le _⟩
theorem tchApp_reads {s x : AV} : (∀ b o n c q, s = .slice b o n c q → b ∈ tchR (tchApp (some [s, x]))) ∧ (∀ b o n c q, x = .slice b o n c q → b ∈ tchR (tchApp (some [s, x]))) ∧ (∀ b o n c q, s = .slice b o n c q → tchW (tchApp (some [s, x])) = [b]) := by
  refine ⟨fun b o n c q hs => ?_, fun b o n c q hx => ?_, fun b o n c q hs => ?_⟩
  · subst hs; cases x <;> simp [tchApp, tchR]
  · subst hx; cases s <;> simp [tchApp, tchR]
  · subst hs; cases x <;> simp [tchApp, tchW]
theorem Good.weak {r : Result Next} {W W' : List Nat} (h : Good w w0 φ H E M r v M' W) (hs : ∀ b ∈ W, b ∈ W') : Good w w0 φ H E M r v M' W' := by
  obtain ⟨nx, vC, w', φ', ups, g1, g2, g3, g4, g5, g6, g7, g8, g9⟩ := h
  exact ⟨nx, vC, w', φ', ups, g1, g2, g3, g4, g5, g6, g7, fun u hu => (g8 u hu).imp (hs _) id, g9⟩
theorem append_ok (hA : At P tab E w0 φ H w) (hfree : M.n < M'.n → φ (E.m0 + M.n) = none) {ts : Array TypeId} {args : List AV} {vals : Array Value} (h : dAppend tab.ty E M ts.toList (some args) = some (v, M')) (hargs : VRL φ args vals.toList)
    (hs : ∀ b ∈ tchR (tchApp (some args)), Seen E M H b) (ty : TypeId) :
    Good w w0 φ H E M ((Builtin.append_ ts ty vals >>= fun y => (Pure.pure (Next.value y) : Sem Next)).run P w) v M' (tchW (tchApp (some args))) := by
  unfold dAppend at h
  split at h <;> try (cases h; done)
  rename_i s x hsx
  cases hsx
  split at h <;> try (cases h; done)
  rename_i t u rest hts
  cases hcnt : isCount x (tab.ty u) with
  | false => rw [hcnt] at h; cases h
  | true =>
    rw [hcnt, cond_true] at h
    obtain ⟨rd1, rd2, hW⟩ := tchApp_reads (s := s) (x := x)
    obtain ⟨s', x', hv2, hvs, hvx⟩ := hargs.two
    obtain rfl := two_list hv2
    have h0 : ts[0]? = some t := by rw [← Array.getElem?_toList, hts]; rfl
    have h1 : ts[1]? = some u := by rw [← Array.getElem?_toList, hts]; rfl
    cases he : elemTy tab.ty (tab.ty t) with
    | none => rw [he] at h; simp [append1] at h
    | some j =>
      obtain ⟨i, e, hi, htd, hj⟩ := elemTy_some he
      have hT := hA.ty t i hi
      have hTe := hA.ty e j hj
      have hud := hT.slice htd
      obtain ⟨inf, hinf, hisz, hiby, z, hiz, hzo⟩ := hTe.info
      obtain ⟨z', hz', hzv⟩ := hTe.zero_cells φ
      obtain rfl : z' = z := by
        have := hz' w
        simp only [zeroValue, Sem.run_bind, typeInfo, run_program, Result.andThen_ok, hinf, hiz, Sem.run_pure] at this
        injection this with this; exact this.symm
      rw [he] at h
      simp only [append1] at h
      cases hsrc : srcOf E M x j with
      | none => rw [hsrc] at h; simp [append2] at h
      | some nn =>
        obtain ⟨n2, new⟩ := nn
        rw [hsrc] at h
        obtain ⟨news, hS, hnews, hnl⟩ := src_ok hA hTe hsrc hvx hcnt (fun b o n c q e => hs b (rd2 b o n c q e))
        simp only [append2] at h
        cases hn0 : Nat.beq n2 0 with
        | true =>
          rw [hn0, cond_true] at h
          obtain rfl := beqT hn0
          cases hsl : isSl s with
          | false => rw [hsl] at h; cases h
          | true =>
            rw [hsl, cond_true] at h
            cases h
            obtain ⟨base, n, c, rfl, hnc⟩ := isSl_cases hsl hvs
            have hnil : news = [] := List.eq_nil_of_length_eq_zero (by rw [hnl, Nat.zero_mul])
            subst hnil
            have hr := run_append_src_room (base := base) (sLen := n) (sCap := c) (ty := ty) hud hinf hisz hS (by omega) h0 h1 (by omega)
            have hr2 : (Builtin.append_ ts ty #[.slice base n c, x']).run P w = .ok (.slice base n c) w := by
              rw [hr]; cases base <;> simp [storeCells]
            exact next_good hr2 (Good.pure hA.inv hvs)
        | false =>
          rw [hn0, cond_false] at h
          have hn0' := beqN hn0
          cases hb : (Nat.blt 0 j.size && Nat.blt 0 j.bytes && Nat.ble j.bytes 65536) with
          | false => rw [hb] at h; cases h
          | true =>
            rw [hb, cond_true] at h
            simp only [Bool.and_eq_true] at hb
            have hsz0 := bltT hb.1.1
            have hby0 := bltT hb.1.2
            have hby1 := bleT hb.2
            have zcs : z'.cells.size = j.size := by have := hzv.cells.length; rw [hTe.zsize] at this; simpa using this
            have hbnd : ∀ n, n ≤ 1048576 → n * inf.bytes ≤ 140737488355328 := fun n hn => by
              rw [hiby]
              have := Nat.mul_le_mul hn hby1
              omega
            cases s <;> (try simp only [] at h) <;> first | (cases h; done) | skip
            case emp z =>
              cases z with
              | false => cases h
              | true =>
              simp only [] at h
              cases hle : Nat.ble n2 1048576 with
              | false => rw [hle] at h; cases h
              | true =>
                rw [hle, cond_true] at h
                have hle' := bleT hle
                simp only [VR] at hvs
                obtain ⟨a, c, rfl, hc0⟩ := hvs
                obtain rfl := hc0 trivial
                obtain ⟨newCap, hcap, hr⟩ := run_append_src_grow (base := some a) (sLen := 0) (sCap := 0) (olds := []) (ty := ty) hud hinf hisz hS (by omega) (hbnd _ (by omega)) h0 h1 (by omega) (by omega)
                  (fun w' _ => run_firstCells_some (P := P) w' j.size 0 a 0 0 [] (by simp) (by simp)) hiz
                simp only [Nat.zero_add, List.nil_append] at hr hcap
                refine next_good hr (newRow_good hA hfree h hnews hnl hsz0 hcap ?_)
                exact zcs
            case nils =>
              cases hle : Nat.ble n2 1048576 with
              | false => rw [hle] at h; cases h
              | true =>
                rw [hle, cond_true] at h
                have hle' := bleT hle
                simp only [VR] at hvs; subst hvs
                obtain ⟨newCap, hcap, hr⟩ := run_append_src_grow (base := none) (sLen := 0) (sCap := 0) (olds := []) (ty := ty) hud hinf hisz hS (by omega) (hbnd _ (by omega)) h0 h1 (by omega) (by omega)
                  (fun w' _ => by simp [Builtin.firstCells]) hiz
                simp only [Nat.zero_add, List.nil_append] at hr hcap
                refine next_good hr (newRow_good hA hfree h hnews hnl hsz0 hcap ?_)
                exact zcs
            case slice b o n c q =>
              have hseen := hs b (rd1 b o n c q rfl)
              rw [hW b o n c q rfl]
              have hvs0 := hvs
              simp only [VR] at hvs
              obtain ⟨g, base, ext, c', hφ, rfl, hnc, hcc, hq0, hqe⟩ := hvs
              simp only [append3] at h
              cases hle : Nat.ble (n + n2) 1048576 with
              | false => rw [hle] at h; cases h
              | true =>
                rw [hle, cond_true] at h
                have hle' := bleT hle
                cases hin : Nat.ble (n + n2) c with
                | true =>
                  rw [hin, cond_true] at h
                  have hin' := bleT hin
                  cases hwr : wrc E M b (o + n * j.size) new with
                  | none => rw [hwr] at h; simp [inPlace] at h
                  | some M2 =>
                    rw [hwr] at h
                    cases h
                    obtain ⟨w', k1, k2, k3, k4, k5⟩ := write_ok hA hwr hseen hnews hφ
                    have hr := run_append_src_room (base := some ⟨g, base + o, none⟩) (sLen := n) (sCap := c') (ty := ty) hud hinf hisz hS (Nat.le_trans (hbnd n2 (by omega)) (by omega)) h0 h1 (by omega)
                    simp only [add_at] at hr
                    rw [Nat.add_assoc base o] at hr
                    rw [k1, Result.andThen_ok] at hr
                    refine next_good hr ⟨_, _, w', φ, _, rfl, .inl rfl, ?_, Phi.Le.refl φ, fun k hk => absurd rfl hk, k2, k3, ?_, by rw [k4]; exact Nat.le_refl _, k5⟩
                    · simp only [VR]
                      exact ⟨g, base, ext, c', hφ, rfl, hin', hcc, hq0, hqe⟩
                    · intro u hu
                      simp only [List.mem_singleton] at hu
                      subst hu
                      exact .inl (by simp)
                | false =>
                  rw [hin, cond_false] at h
                  have hin' := bleN hin
                  cases hq : Nat.beq q 0 with
                  | true =>
                    rw [hq, cond_true] at h
                    have hcc' := hq0 (beqT hq)
                    cases hold : rd E M b o (n * j.size) with
                    | none => rw [hold] at h; simp [moved] at h
                    | some old =>
                      rw [hold] at h
                      simp only [moved] at h
                      obtain ⟨olds, o1, o2, o3⟩ := first_ok hA hold hseen hφ (cap := c')
                      have hcap0 : c' < n + n2 := by omega
                      obtain ⟨newCap, hcap, hr⟩ := run_append_src_grow (base := some ⟨g, base + o, none⟩) (sLen := n) (sCap := c') (olds := olds) (ty := ty) hud hinf hisz hS (by omega) (hbnd _ (by omega)) h0 h1 hcap0 (by omega)
                        (fun w' hw => by have := o3 w' hw; simpa [Builtin.firstCells] using this) hiz
                      refine (next_good hr (newRow_good hA hfree h (o1.append hnews) (by rw [List.length_append, o2, hnl, Nat.add_mul]) hsz0 hcap zcs)).weak (W := []) (by simp)
                  | false =>
                    rw [hq, cond_false] at h
                    have hq1 := beqN hq
                    cases hb2 : (Nat.beq q j.size && Nat.ble E.m0 b) with
                    | false => rw [hb2] at h; cases h
                    | true =>
                      rw [hb2, cond_true] at h
                      simp only [Bool.and_eq_true] at hb2
                      obtain rfl := beqT hb2.1
                      have hm0 := bleT hb2.2
                      cases hoc : objCells (M.get (b - E.m0)) with
                      | none => rw [hoc] at h; simp [grown] at h
                      | some cs =>
                        rw [hoc] at h
                        simp only [grown] at h
                        cases hlen : Nat.beq cs.length (o + n * j.size) with
                        | false => rw [hlen] at h; cases h
                        | true =>
                          rw [hlen, cond_true] at h
                          have hlen' := beqT hlen
                          have hco : cellsOf E M b = some cs := by unfold cellsOf; rw [bltOfN hm0, cond_false]; exact hoc
                          have hrd : rd E M b o (n * j.size) = some (cs.drop o) := by
                            unfold rd; rw [hco]
                            simp only [rdIn]
                            rw [Nat.ble_eq_true_of_le (show o + n * j.size ≤ cs.length by omega), cond_true]
                            rw [List.take_of_length_le (by simp; omega)]
                          cases hall : (cs.drop o ++ new).all AV.isCell with
                          | false => rw [newRow_put, hall] at h; cases h
                          | true =>
                            rw [newRow_put, hall, cond_true] at h
                            cases h
                            by_cases hfit : n + n2 ≤ c'
                            · obtain ⟨w', k1, k2⟩ := grown_in_place hA (hfree (Nat.lt_succ_self _)) hm0 hoc hseen hφ hlen' hnews hnl hall hfit (hqe (by omega)) hsz0
                              have hr := run_append_src_room (base := some ⟨g, base + o, none⟩) (sLen := n) (sCap := c') (ty := ty) hud hinf hisz hS (Nat.le_trans (hbnd n2 (by omega)) (by omega)) h0 h1 hfit
                              simp only [] at hr
                              rw [k1, Result.andThen_ok] at hr
                              exact next_good hr k2
                            · obtain ⟨olds, o1, o2, o3⟩ := first_ok hA hrd hseen hφ (cap := c')
                              obtain ⟨newCap, hcap, hr⟩ := run_append_src_grow (base := some ⟨g, base + o, none⟩) (sLen := n) (sCap := c') (olds := olds) (ty := ty) hud hinf hisz hS (by omega) (hbnd _ (by omega)) h0 h1 (by omega) (by omega)
                                (fun w' hw => by have := o3 w' hw; simpa [Builtin.firstCells] using this) hiz
                              exact next_good hr (grown_moved hA (hfree (Nat.lt_succ_self _)) hm0 (objCells_get hoc) hall (o1.append hnews) (by rw [List.length_append, o2, hnl, Nat.add_mul]) hsz0 hcap zcs)
end
end Go.Sx
/- S, text B: each operation that calls no function, joined. -/
namespace Go.Sx
open Go.RowKit
section
variable {P : Program} {tab : Tab} {E : Env} {w0 : World} {φ : Phi} {H : Heap} {w : World} {M M' : Mem} {v : AV}

/-! #### operands -/
theorem opd_ok {T : Tbl AV} {a : Act} (h : TR φ T a.tmps) (x : Operand) : OV φ (opd T x) (a.eval x) := by
  intro u hu
  cases x with
  | tmp t => simp only [opd, Option.some.injEq] at hu; subst hu; exact h.at_ t
  | const c => exact VR.ofV φ c u hu
  | func f =>
    simp only [opd, Option.some.injEq] at hu; subst hu
    simp only [VR, Act.eval]
    exact ⟨[], [], rfl, VRL.nil, VRL.nil⟩
  | global g => simp [opd] at hu
theorem opds_ok {T : Tbl AV} {a : Act} (h : TR φ T a.tmps) : ∀ (l : List Operand) (vs : List AV), opds T l = some vs → VRL φ vs (l.map a.eval)
  | [], vs, hl => by simp only [opds, Option.some.injEq] at hl; subst hl; exact VRL.nil
  | x :: l, vs, hl => by
    simp only [opds] at hl
    cases hx : opd T x with
    | none => rw [hx] at hl; simp [cons?] at hl
    | some u => cases hr : opds T l with
      | none => rw [hx, hr] at hl; simp [cons?] at hl
      | some r =>
        rw [hx, hr] at hl
        simp only [cons?, Option.some.injEq] at hl; subst hl
        exact VRL.cons ((opd_ok h x).get hx) (opds_ok h l r hr)
theorem opdO_ok {T : Tbl AV} {a : Act} (h : TR φ T a.tmps) (x : Option Operand) (u : Option AV) (hx : opdO T x = some u) : OVO φ u (x.map a.eval) := by
  cases x with
  | none => simp only [opdO, Option.some.injEq] at hx; subst hx; exact .inl ⟨rfl, rfl⟩
  | some o =>
    simp only [opdO] at hx
    cases ho : opd T o with
    | none => rw [ho] at hx; cases hx
    | some y =>
      rw [ho] at hx
      simp only [Option.some.injEq] at hx; subst hx
      exact .inr ⟨y, _, rfl, rfl, (opd_ok h o).get ho⟩

/-! #### builtins -/
theorem one?_some {f : AV → R} {args : Option (List AV)} {r : AV × Mem} (h : one? M f args = some r) : ∃ u, args = some [u] ∧ f u = some r := by
  unfold one? at h
  split at h
  · exact ⟨_, rfl, h⟩
  · cases h
theorem one_list {xs : Array Value} {a : Value} (h : xs.toList = [a]) : xs = #[a] := by apply Array.ext'; simpa using h
theorem ty0_some {ty : Nat → Option TyI} {ts : Array TypeId} {i : TyI} (h : ty0 ty ts.toList = some i) : ∃ t, ts[0]? = some t ∧ ty t = some i := by
  cases hts : ts.toList with
  | nil => rw [hts] at h; simp [ty0] at h
  | cons t l =>
    rw [hts] at h
    exact ⟨t, by rw [← Array.getElem?_toList, hts]; rfl, h⟩
theorem isSlice_val {i : TyI} {u : AV} {r : AV × Mem} (h : lenA M u (some i) = some r) {x : Value} (hx : VR φ u x) (e : Nat) (htd : i.td = .slice e) : ∃ base n c, x = .slice base n c ∧ r = (.int .i64 n, M) := by
  simp only [lenA, htd] at h
  cases u <;> simp only [] at h <;> first | (cases h; done) | skip
  case slice b o n c q =>
    simp only [VR] at hx
    obtain ⟨g, base, ext, c', _, rfl, _⟩ := hx
    exact ⟨_, _, _, rfl, by simpa using h.symm⟩
  case nils => simp only [VR] at hx; subst hx; exact ⟨_, _, _, rfl, by simpa using h.symm⟩
  case emp =>
    simp only [VR] at hx
    obtain ⟨a, c, rfl, _⟩ := hx
    exact ⟨_, _, _, rfl, by simpa using h.symm⟩
theorem len_ok (hA : At P tab E w0 φ H w) {ts : Array TypeId} {u : AV} {x : Value} (h : lenA M u (ty0 tab.ty ts.toList) = some (v, M')) (hx : VR φ u x) (ty : TypeId) : ∃ vC, (Builtin.len_ ts ty #[x]).run P w = .ok vC w ∧ VR φ v vC ∧ M' = M := by
  cases hty : ty0 tab.ty ts.toList with
  | none => rw [hty] at h; simp [lenA] at h
  | some i =>
    obtain ⟨t, ht0, hti⟩ := ty0_some hty
    have hT := hA.ty t i hti
    rw [hty] at h
    cases htd : i.td with
    | slice e =>
      have hu := hT.slice htd
      obtain ⟨base, n, c, rfl, hr⟩ := isSlice_val h hx e htd
      cases hr
      exact ⟨goInt n, by simp [Builtin.len_, ht0, run_und hu], by simp [VR, goInt], rfl⟩
    | array n e =>
      have hu := hT.array htd
      simp only [lenA, htd, Option.some.injEq, Prod.mk.injEq] at h
      obtain ⟨rfl, rfl⟩ := h
      exact ⟨goInt n, by simp [Builtin.len_, ht0, run_und hu], by simp [VR, goInt], rfl⟩
    | _ => simp [lenA, htd] at h
theorem cap_ok (hA : At P tab E w0 φ H w) {ts : Array TypeId} {u : AV} {x : Value} (h : capA M u (ty0 tab.ty ts.toList) = some (v, M')) (hx : VR φ u x) (ty : TypeId) : ∃ vC, (Builtin.cap_ ts ty #[x]).run P w = .ok vC w ∧ VR φ v vC ∧ M' = M := by
  cases hty : ty0 tab.ty ts.toList with
  | none => rw [hty] at h; simp [capA] at h
  | some i =>
    obtain ⟨t, ht0, hti⟩ := ty0_some hty
    have hT := hA.ty t i hti
    rw [hty] at h
    cases htd : i.td with
    | slice e =>
      have hu := hT.slice htd
      simp only [capA, htd] at h
      split at h
      · cases h
        simp only [VR] at hx; subst hx
        exact ⟨goInt 0, by simp [Builtin.cap_, ht0, run_und hu], by simp [VR, goInt], rfl⟩
      · rename_i b o n c
        cases h
        simp only [VR] at hx
        obtain ⟨g, base, ext, c', _, rfl, _, _, hq, _⟩ := hx
        obtain rfl : c' = c := hq trivial
        exact ⟨goInt c', by simp [Builtin.cap_, ht0, run_und hu], by simp [VR, goInt], rfl⟩
      · cases h
    | _ => simp [capA, htd] at h
theorem max2_eq (m : Bool) (x y : Int) : max2 m x y = if m then (if y > x then y else x) else (if y < x then y else x) := by
  cases m <;> simp only [max2, cond_true, cond_false, if_true, Bool.false_eq_true, if_false]
  · by_cases h : y < x <;> simp [h]
  · by_cases h : x < y <;> simp [h]

theorem minmaxL_ok (m : Bool) {k : IntKind} : ∀ (l : List AV) (ws : List Value) (x : Int), minmaxL m k x l = some v → VRL φ l ws → ∃ vC, (ws.foldlM (if m then Builtin.max2 else Builtin.min2) (.int k x)).run P w = .ok vC w ∧ VR φ v vC
  | [], ws, x, h, hl => by
    simp only [VRL] at hl; subst hl
    simp only [minmaxL, Option.some.injEq] at h; subst h
    exact ⟨.int k x, by simp, by simp [VR]⟩
  | a :: l, ws, x, h, hl => by
    simp only [VRL] at hl
    obtain ⟨y, r, rfl, hy, hr⟩ := hl
    cases a <;> simp only [minmaxL] at h <;> first | (cases h; done) | skip
    rename_i k' n
    simp only [VR] at hy; subst hy
    obtain ⟨vC, h1, h2⟩ := minmaxL_ok m l r _ h hr
    refine ⟨vC, ?_, h2⟩
    rw [max2_eq] at h1
    cases m
    · simpa [List.foldlM_cons, Builtin.min2] using h1
    · simpa [List.foldlM_cons, Builtin.max2] using h1
theorem lst?_some {f : List AV → Option AV} {args : Option (List AV)} (h : lst? M f args = some (v, M')) : ∃ l, args = some l ∧ f l = some v ∧ M' = M := by
  cases args with
  | none => simp [lst?] at h
  | some l =>
    obtain ⟨h1, h2⟩ := d1_some (show d1 M (f l) = some (v, M') from h)
    exact ⟨l, rfl, h1, h2⟩
theorem minmax_ok (m : Bool) {l : List AV} {vals : Array Value} (h : minmax m l = some v) (hl : VRL φ l vals.toList) (ts : Array TypeId) (ty : TypeId) :
    ∃ vC, ((if m then Builtin.max_ else Builtin.min_) ts ty vals).run P w = .ok vC w ∧ VR φ v vC := by
  cases l with
  | nil => simp [minmax] at h
  | cons a l =>
    cases a <;> simp only [minmax] at h <;> first | (cases h; done) | skip
    rename_i k n
    simp only [VRL] at hl
    obtain ⟨y, r, hv, hy, hr⟩ := hl
    simp only [VR] at hy; subst hy
    obtain ⟨vC, h1, h2⟩ := minmaxL_ok (P := P) (w := w) m l r n h hr
    refine ⟨vC, ?_, h2⟩
    cases m
    · simpa [Builtin.min_, hv] using h1
    · simpa [Builtin.max_, hv] using h1
theorem clear_ok (hA : At P tab E w0 φ H w) {ts : Array TypeId} {s : AV} {x : Value} (h : clearA E M s (elemTy tab.ty (ty0 tab.ty ts.toList)) = some (v, M')) (hx : VR φ s x) (hs : ∀ b o n c q, s = .slice b o n c q → Seen E M H b) (ty : TypeId) :
    Good w w0 φ H E M ((Builtin.clear_ ts ty #[x] >>= fun y => (Pure.pure (Next.value y) : Sem Next)).run P w) v M' (tchW (tchClear (some [s]))) := by
  cases he : elemTy tab.ty (ty0 tab.ty ts.toList) with
  | none => rw [he] at h; simp [clearA] at h
  | some j =>
    obtain ⟨i, e, hi, htd, hj⟩ := elemTy_some he
    obtain ⟨t, ht0, hti⟩ := ty0_some hi
    have hud := (hA.ty t i hti).slice htd
    have hTe := hA.ty e j hj
    rw [he] at h
    have htup : VR φ (.tup []) (.tuple #[]) := by simp only [VR]; exact ⟨[], rfl, VRL.nil⟩
    cases s <;> simp only [clearA] at h <;> first | (cases h; done) | skip
    case nils =>
      cases h
      simp only [VR] at hx; subst hx
      exact next_good (by simp [Builtin.clear_, ht0, run_und hud]) (Good.pure hA.inv htup)
    case emp =>
      cases h
      simp only [VR] at hx
      obtain ⟨a, c, rfl, _⟩ := hx
      exact next_good (by simp [Builtin.clear_, ht0, run_und hud]) (Good.pure hA.inv htup)
    case slice b o n c q =>
      have hx0 := hx
      simp only [VR] at hx
      obtain ⟨g, base, ext, c', hφ, rfl, _⟩ := hx
      cases hn : Nat.beq n 0 with
      | true =>
        rw [hn, cond_true] at h
        cases h
        obtain rfl := beqT hn
        exact next_good (by simp [Builtin.clear_, ht0, run_und hud]) (Good.pure hA.inv htup)
      | false =>
        rw [hn, cond_false] at h
        have hn' := beqN hn
        cases hz : Nat.beq j.zero.cells.length j.size with
        | false => rw [hz] at h; cases h
        | true =>
          rw [hz, cond_true] at h
          obtain ⟨z, hzr, hzv⟩ := hTe.zero_cells φ
          have hzz := zeros_ok hzv.cells n (n * z.cells.size) (by have := hzv.cells.length; simp only [Array.length_toList] at this; rw [this])
          cases hwr : wrc E M b o (repl n j.zero.cells) with
          | none => rw [hwr] at h; simp [tupR] at h
          | some M2 =>
            rw [hwr] at h
            cases h
            obtain ⟨w', k1, k2, k3, k4, k5⟩ := write_ok hA hwr (hs _ _ _ _ _ rfl) hzz hφ
            have hr : (Builtin.clear_ ts ty #[.slice (some ⟨g, base + o, none⟩) n c']).run P w = .ok (.tuple #[]) w' := by
              have hcl : ∀ k, n = k + 1 → (Builtin.clear_ ts ty #[.slice (some ⟨g, base + o, none⟩) n c']).run P w = .ok (.tuple #[]) w' := by
                intro k hk
                subst hk
                simp only [Builtin.clear_, ht0, List.getElem?_toArray, List.getElem?_cons_zero, Sem.run_bind, run_und hud, Result.andThen_ok, hzr]
                rw [show Builtin.zeroCells z.cells (k + 1) = (Array.range ((k + 1) * z.cells.size)).map (z.cells[· % z.cells.size]!) from rfl, k1]
                rfl
              exact hcl (n - 1) (by omega)
            refine next_good hr ⟨_, _, w', φ, _, rfl, .inl rfl, htup, Phi.Le.refl φ, fun k hk => absurd rfl hk, k2, k3, ?_, by rw [k4]; exact Nat.le_refl _, k5⟩
            intro u hu
            simp only [List.mem_singleton] at hu
            subst hu
            exact .inl (by simp [tchClear, tchW])

theorem builtin_ok (hA : At P tab E w0 φ H w) (hfree : M.n < M'.n → φ (E.m0 + M.n) = none) {b : Builtin} {ts : Array TypeId} {args : Option (List AV)} {vals : Array Value} (h : dBuiltin tab.ty E M b ts.toList args = some (v, M')) (hargs : ∀ l, args = some l → VRL φ l vals.toList)
    (hsA : b = .append → ∀ k ∈ tchR (tchApp args), Seen E M H k) (hsC : b = .clear → ∀ k ∈ tchR (tchClear args), Seen E M H k) (ty : TypeId) (cs : Array Bool) :
    Good w w0 φ H E M ((builtin b ts ty cs vals).run P w) v M' (match b with | .append => tchW (tchApp args) | .clear => tchW (tchClear args) | _ => []) := by
  cases b <;> simp only [dBuiltin] at h <;> first | (cases h; done) | skip
  case append =>
    cases args with
    | none => simp [dAppend] at h
    | some l => exact append_ok hA hfree h (hargs l rfl) (hsA rfl) ty
  case cap =>
    obtain ⟨u, rfl, h1⟩ := one?_some h
    obtain ⟨x, hv, hx⟩ := (hargs _ rfl).single
    obtain rfl := one_list hv
    obtain ⟨vC, k1, k2, rfl⟩ := cap_ok (w := w) hA h1 hx ty
    exact next_good k1 (Good.pure hA.inv k2)
  case clear =>
    obtain ⟨u, rfl, h1⟩ := one?_some h
    obtain ⟨x, hv, hx⟩ := (hargs _ rfl).single
    obtain rfl := one_list hv
    exact clear_ok hA h1 hx (fun b o n c q e => hsC rfl b (by subst e; simp [tchClear, tchR])) ty
  case len =>
    obtain ⟨u, rfl, h1⟩ := one?_some h
    obtain ⟨x, hv, hx⟩ := (hargs _ rfl).single
    obtain rfl := one_list hv
    obtain ⟨vC, k1, k2, rfl⟩ := len_ok (w := w) hA h1 hx ty
    exact next_good k1 (Good.pure hA.inv k2)
  case max =>
    obtain ⟨l, rfl, h1, rfl⟩ := lst?_some h
    obtain ⟨vC, k1, k2⟩ := minmax_ok (P := P) (w := w) true h1 (hargs _ rfl) ts ty
    exact next_good k1 (Good.pure hA.inv k2)
  case min =>
    obtain ⟨l, rfl, h1, rfl⟩ := lst?_some h
    obtain ⟨vC, k1, k2⟩ := minmax_ok (P := P) (w := w) false h1 (hargs _ rfl) ts ty
    exact next_good k1 (Good.pure hA.inv k2)

/-! #### one operation -/
theorem good_skip {s : Sem Unit} {w' : World} {W : List Nat} (hv : v = .undef) (h : s.run P w = .ok () w') (hg : Good w w0 φ H E M (.ok (.value undef) w') v M' W) : Good w w0 φ H E M ((s >>= fun _ => (Pure.pure Next.skip : Sem Next)).run P w) v M' W := by
  rw [run_skip _ _ h]
  obtain ⟨nx, vC, w2, φ', ups, g1, g2, g3⟩ := hg
  cases g1
  rcases g2 with e | ⟨e, _⟩
  · cases e
    exact ⟨_, undef, _, φ', ups, rfl, .inr ⟨rfl, rfl⟩, g3⟩
  · cases e
theorem dop_ok (hA : At P tab E w0 φ H w) (hfree : M.n < M'.n → φ (E.m0 + M.n) = none) {T : Tbl AV} {a : Act} (hT : TR φ T a.tmps) {o : Oper} (h : dop tab.ty E T M o.op = some (v, M')) (hs : ∀ b ∈ tchR (touch tab T o.op), Seen E M H b) (hnc : ∀ c f, o.op = .call c → c.callee ≠ .value f) :
    Good w w0 φ H E M ((execOp a.eval o).run P w) v M' (tchW (touch tab T o.op)) := by
  have op1 := fun x => opd_ok (φ := φ) hT x
  unfold execOp
  cases hop : o.op <;> rw [hop] at h <;> simp only [dop] at h <;> first | (cases h; done) | skip
  case move x =>
    obtain ⟨h1, rfl⟩ := d1_some h
    exact Good.pure hA.inv ((op1 x).get h1)
  case assign x =>
    obtain ⟨h1, rfl⟩ := d1_some h
    exact Good.pure hA.inv ((op1 x).get h1)
  case alloc t =>
    have hz : ∃ z, (∀ w, (zeroValue t).run P w = .ok z w) ∧ OV φ (zeroO (tab.ty t)) z := by
      cases hty : tab.ty t with
      | none => rw [hty] at h; simp [zeroO, dBox] at h
      | some i =>
        obtain ⟨z, h1, h2⟩ := (hA.ty t i hty).zero_cells φ
        exact ⟨z, h1, fun u hu => by simp only [zeroO, Option.some.injEq] at hu; subst hu; exact h2⟩
    obtain ⟨z, hz1, hz2⟩ := hz
    have := box_ok hA hfree h hz2 t (W := [])
    have e : ((Instr.alloc t true (.tuple #[]) >>= fun y => (Pure.pure (Next.value y) : Sem Next)).run P w) = ((newVar t z >>= fun a => (Pure.pure (Next.value (.pointer (some a))) : Sem Next)).run P w) := by
      simp [Instr.alloc, hz1]
    simp only [e]
    exact this.weak (by simp)
  case box t x =>
    have := box_ok hA hfree h (op1 x) t (W := [])
    have e : ((Instr.box t (a.eval x) >>= fun y => (Pure.pure (Next.value y) : Sem Next)).run P w) = ((newVar t (a.eval x) >>= fun a => (Pure.pure (Next.value (.pointer (some a))) : Sem Next)).run P w) := by
      simp [Instr.box]
    simp only [e]
    exact this.weak (by simp)
  case build t parts =>
    obtain ⟨vC, k1, k2, rfl⟩ := build_ok (w := w) hA h (fun p _ => op1 p.2)
    exact next_good k1 (Good.pure hA.inv k2)
  case buildSlice t len parts => exact (buildSlice_ok hA hfree h (fun p _ => op1 p.2) (W := [])).weak (by simp)
  case load t x =>
    obtain ⟨vC, k1, k2, rfl⟩ := load_ok (w := w) hA h (op1 x) (fun b o' e => hs b (by rw [hop]; simp [touch, e, tchP, tchR]))
    exact next_good k1 (Good.pure hA.inv k2)
  case store t x y =>
    obtain ⟨b, o', w', ob, hx, k1, rfl, k2, k3, k4, k5⟩ := store_ok (w := w) hA h (op1 x) (op1 y) (fun b o' e => hs b (by rw [hop]; simp [touch, e, tchP, tchR]))
    refine good_skip rfl k1 ⟨_, undef, w', φ, _, rfl, .inl rfl, by simp [VR], Phi.Le.refl φ, fun k hk => absurd rfl hk, k2, k3, ?_, by rw [k4]; exact Nat.le_refl _, k5⟩
    intro u hu
    simp only [List.mem_singleton] at hu
    subst hu
    exact .inl (by simp [touch, hx, tchP, tchW])
  case nilCheck x =>
    have hx := op1 x
    cases hxv : opd T x with
    | none => rw [hxv] at h; simp [dNil] at h
    | some u =>
      rw [hxv] at h
      have hv := hx.get hxv
      cases u <;> simp only [dNil] at h <;> first | (cases h; done) | skip
      case ptr b o' =>
        cases h
        have hv0 := hv
        simp only [VR] at hv
        obtain ⟨g, base, ext, _, e⟩ := hv
        rw [e] at hv0
        simp only [e]
        exact Good.pure hA.inv hv0
      case func f fs caps =>
        cases h
        have hv0 := hv
        simp only [VR] at hv
        obtain ⟨xs, ys, e, _⟩ := hv
        rw [e] at hv0
        simp only [e]
        exact Good.pure hA.inv hv0
  case binOp op t x y yt =>
    cases hx : opd T x with
    | none => rw [hx] at h; simp [dBin] at h
    | some u => cases hy : opd T y with
      | none => rw [hx, hy] at h; simp [dBin] at h
      | some u' =>
        rw [hx, hy] at h
        obtain ⟨h1, rfl⟩ := d1_some (show d1 M (bin tab.ty op t u u') = _ from h)
        obtain ⟨vC, k1, k2⟩ := bin_ok (w := w) hA h1 ((op1 x).get hx) ((op1 y).get hy) x y
        exact next_good k1 (Good.pure hA.inv k2)
  case unOp op t x =>
    cases hx : opd T x with
    | none => rw [hx] at h; simp [dUn] at h
    | some u =>
      rw [hx] at h
      obtain ⟨h1, rfl⟩ := d1_some (show d1 M (un op u) = _ from h)
      obtain ⟨vC, k1, k2⟩ := un_ok (P := P) (w := w) h1 ((op1 x).get hx)
      exact next_good k1 (Good.pure hA.inv k2)
  case convert s d x =>
    obtain ⟨vC, k1, k2, rfl⟩ := conv_ok (w := w) hA h (op1 x)
    exact next_good k1 (Good.pure hA.inv k2)
  case makeFunc fn first caps =>
    cases fn <;> simp only [dMkFunc] at h <;> first | (cases h; done) | skip
    rename_i f
    cases hl : opds T first.toList with
    | none => rw [hl] at h; simp [dFunc] at h
    | some l => cases hr : opds T caps.toList with
      | none => rw [hl, hr] at h; simp [dFunc] at h
      | some r =>
        rw [hl, hr] at h
        simp only [dFunc, Option.some.injEq, Prod.mk.injEq] at h
        obtain ⟨rfl, rfl⟩ := h
        refine next_good (x := .func (.func f) (first.map a.eval) (caps.map a.eval)) (w' := w) (by simp [Instr.makeFunc]) (Good.pure hA.inv ?_)
        simp only [VR]
        exact ⟨first.toList.map a.eval, caps.toList.map a.eval, by congr 1 <;> (apply Array.ext'; simp), opds_ok hT _ _ hl, opds_ok hT _ _ hr⟩
  case makeSlice t x y => exact (makeSlice_ok hA hfree h (op1 x) (op1 y) (W := [])).weak (by simp)
  case slice t x lo hi mx =>
    cases h1 : opdO T lo with
    | none => rw [h1] at h; simp [dSlice] at h
    | some lo' => cases h2 : opdO T hi with
      | none => rw [h1, h2] at h; simp [dSlice] at h
      | some hi' => cases h3 : opdO T mx with
        | none => rw [h1, h2, h3] at h; simp [dSlice] at h
        | some mx' =>
          rw [h1, h2, h3] at h
          obtain ⟨vC, k1, k2, rfl⟩ := slice_ok (w := w) hA h (op1 x) (opdO_ok hT _ _ h1) (opdO_ok hT _ _ h2) (opdO_ok hT _ _ h3)
          exact next_good k1 (Good.pure hA.inv k2)
  case fieldAddr s x f =>
    obtain ⟨vC, k1, k2, rfl⟩ := fieldAddr_ok (w := w) hA h (op1 x)
    exact next_good k1 (Good.pure hA.inv k2)
  case field t x f =>
    obtain ⟨vC, k1, k2, rfl⟩ := field_ok (w := w) hA h (op1 x)
    exact next_good k1 (Good.pure hA.inv k2)
  case indexAddr t x ix =>
    obtain ⟨vC, k1, k2, rfl⟩ := indexAddr_ok (w := w) hA h (op1 x) (op1 ix)
    exact next_good k1 (Good.pure hA.inv k2)
  case index t x ix =>
    obtain ⟨vC, k1, k2, rfl⟩ := index_ok (w := w) hA h (op1 x) (op1 ix)
    exact next_good k1 (Good.pure hA.inv k2)
  case extract x ix =>
    obtain ⟨vC, k1, k2, rfl⟩ := extract_ok (P := P) (w := w) h (op1 x)
    exact next_good k1 (Good.pure hA.inv k2)
  case pick c x y =>
    cases hc : opd T c with
    | none => rw [hc] at h; simp [dPick] at h
    | some u =>
      rw [hc] at h
      cases u <;> simp only [dPick] at h <;> first | (cases h; done) | skip
      rename_i t
      have hv := (op1 c).get hc
      simp only [VR] at hv
      cases t with
      | true =>
        obtain ⟨h1, rfl⟩ := d1_some h
        simp only [hv]
        refine (?_ : Good w w0 φ H E _ (.ok (.value (a.eval x)) w) v _ _)
        exact Good.pure hA.inv ((op1 x).get h1)
      | false =>
        obtain ⟨h1, rfl⟩ := d1_some h
        simp only [hv]
        refine (?_ : Good w w0 φ H E _ (.ok (.value (a.eval y)) w) v _ _)
        exact Good.pure hA.inv ((op1 y).get h1)
  case call c =>
    cases hcc : c.callee with
    | value f => exact absurd hcc (hnc c f hop)
    | invoke r nm => rw [hcc] at h; simp [dCallB] at h
    | builtin b =>
      rw [hcc] at h
      simp only [dCallB] at h
      have hargs : ∀ l, opds T c.args.toList = some l → VRL φ l (c.args.map a.eval).toList := fun l hl => by
        rw [Array.toList_map]; exact opds_ok hT _ _ hl
      simp only [resolve, hcc, Sem.run_bind, Sem.run_pure, Result.andThen_ok, invoke]
      refine (builtin_ok hA hfree h hargs (fun e => ?_) (fun e => ?_) _ _).weak ?_
      · subst e; intro k hk; exact hs k (by rw [hop]; simpa [touch, tchC, hcc] using hk)
      · subst e; intro k hk; exact hs k (by rw [hop]; simpa [touch, tchC, hcc] using hk)
      · cases b <;> simp [touch, tchC, hcc]
end
end Go.Sx
/- S, text C: what a call hands back: renumbered blocks; a call on a memory of its own. -/
namespace Go.Sx
open Go.RowKit

/-! ### Renaming -/
mutual
theorem VR.ren {φ ψ : Phi} {ρ : Nat → Nat} : ∀ (a : AV) (v : Value), VR φ a v → (∀ i ∈ a.ids, ∀ x, φ i = some x → ψ (ρ i) = some x) → VR ψ (a.ren ρ) v
  | .int .., _, e, _ => by simpa [VR, AV.ren] using e
  | .bool .., _, e, _ => by simpa [VR, AV.ren] using e
  | .str .., _, e, _ => by simpa [VR, AV.ren] using e
  | .nilp, _, e, _ => by simpa [VR, AV.ren] using e
  | .nils, _, e, _ => by simpa [VR, AV.ren] using e
  | .emp _, _, e, _ => by simpa only [VR, AV.ren] using e
  | .nilf, _, e, _ => by simpa [VR, AV.ren] using e
  | .undef, _, e, _ => by simpa [VR, AV.ren] using e
  | .ptr b o, _, e, h => by
    simp only [VR, AV.ren] at e ⊢
    obtain ⟨g, base, ext, h1, h2⟩ := e
    exact ⟨g, base, ext, h b (by simp [AV.ids]) _ h1, h2⟩
  | .slice b o n c q, _, e, h => by
    simp only [VR, AV.ren] at e ⊢
    obtain ⟨g, base, ext, c', h1, h2⟩ := e
    exact ⟨g, base, ext, c', h b (by simp [AV.ids]) _ h1, h2⟩
  | .yld l, _, e, h => by
    simp only [VR, AV.ren] at e ⊢
    obtain ⟨g, h1, h2⟩ := e
    exact ⟨g, h l (by simp [AV.ids]) _ h1, h2⟩
  | .func f fs caps, _, e, h => by
    simp only [VR, AV.ren] at e ⊢
    obtain ⟨xs, ys, h1, h2, h3⟩ := e
    exact ⟨xs, ys, h1, VRL.ren fs xs h2 (fun i hi => h i (by simp [AV.ids, hi])), VRL.ren caps ys h3 (fun i hi => h i (by simp [AV.ids, hi]))⟩
  | .agg cs, _, e, h => by
    simp only [VR, AV.ren] at e ⊢
    obtain ⟨xs, h1, h2⟩ := e
    exact ⟨xs, h1, VRL.ren cs xs h2 (fun i hi => h i (by simp [AV.ids, hi]))⟩
  | .tup cs, _, e, h => by
    simp only [VR, AV.ren] at e ⊢
    obtain ⟨xs, h1, h2⟩ := e
    exact ⟨xs, h1, VRL.ren cs xs h2 (fun i hi => h i (by simp [AV.ids, hi]))⟩
theorem VRL.ren {φ ψ : Phi} {ρ : Nat → Nat} : ∀ (as : List AV) (l : List Value), VRL φ as l → (∀ i ∈ AV.idsL as, ∀ x, φ i = some x → ψ (ρ i) = some x) → VRL ψ (AV.renL ρ as) l
  | [], _, e, _ => by simpa [VRL, AV.renL] using e
  | a :: as, _, e, h => by
    simp only [VRL, AV.renL] at e ⊢
    obtain ⟨v, r, h1, h2, h3⟩ := e
    exact ⟨v, r, h1, VR.ren a v h2 (fun i hi => h i (by simp [AV.idsL, hi])), VRL.ren as r h3 (fun i hi => h i (by simp [AV.idsL, hi]))⟩
end
mutual
theorem ren_id : ∀ (a : AV), a.ren (fun i => i) = a
  | .int .. | .bool .. | .str .. | .nilp | .nils | .emp _ | .nilf | .undef | .ptr .. | .slice .. | .yld .. => rfl
  | .func f fs caps => by simp only [AV.ren, renL_id fs, renL_id caps]
  | .agg cs => by simp only [AV.ren, renL_id cs]
  | .tup cs => by simp only [AV.ren, renL_id cs]
theorem renL_id : ∀ (as : List AV), AV.renL (fun i => i) as = as
  | [] => rfl
  | a :: as => by simp only [AV.renL, ren_id a, renL_id as]
end
theorem VR.swap {φ ψ : Phi} {a : AV} {v : Value} (h : VR φ a v) (hi : ∀ i ∈ a.ids, ∀ x, φ i = some x → ψ i = some x) : VR ψ a v := by
  have := VR.ren (ρ := fun i => i) a v h hi
  rwa [ren_id] at this
theorem isCell_ren (ρ : Nat → Nat) (a : AV) : (a.ren ρ).isCell = a.isCell := by cases a <;> rfl
theorem renL_length (ρ : Nat → Nat) : ∀ (as : List AV), (AV.renL ρ as).length = as.length
  | [] => rfl
  | a :: as => by simp only [AV.renL, List.length_cons, renL_length ρ as]
theorem renL_get (ρ : Nat → Nat) : ∀ (as : List AV) (j : Nat), (AV.renL ρ as)[j]? = (as[j]?).map (AV.ren ρ)
  | [], j => by simp [AV.renL]
  | a :: as, 0 => by simp [AV.renL]
  | a :: as, j + 1 => by simp only [AV.renL, List.getElem?_cons_succ, renL_get ρ as j]
theorem mem_idsL {as : List AV} {j : Nat} {a : AV} (h : as[j]? = some a) {i : Nat} (hi : i ∈ a.ids) : i ∈ AV.idsL as := by
  induction as generalizing j with
  | nil => simp at h
  | cons b as ih =>
    simp only [AV.idsL, List.mem_append]
    cases j with
    | zero => simp only [List.getElem?_cons_zero, Option.some.injEq] at h; subst h; exact .inl hi
    | succ j => exact .inr (ih (by simpa using h))

/-! ### What is reached -/
theorem memb_mem {b : Nat} : ∀ {l : List Nat}, memb b l = true ↔ b ∈ l
  | [] => by simp [memb]
  | x :: l => by
    simp only [memb, List.mem_cons]
    cases h : Nat.beq x b with
    | true => simp [beqT h]
    | false => simp only [cond_false, memb_mem (l := l)]; exact ⟨.inr, fun e => e.resolve_left (fun e' => beqN h e'.symm)⟩
def Known (m1 : Nat) (M : Mem) (b : Nat) (ok : Nat → Prop) : Prop := m1 ≤ b ∧ ∃ cs, objCells (M.get (b - m1)) = some cs ∧ ∀ i ∈ AV.idsL cs, i < m1 ∨ ok i
theorem reach_ok {m1 : Nat} {M : Mem} : ∀ (n : Nat) (found todo res : List Nat), reach m1 M n found todo = some res → (∀ b ∈ found, Known m1 M b (fun i => i ∈ found ∨ i ∈ todo)) → found.Nodup →
    res.Nodup ∧ (∀ b ∈ found, b ∈ res) ∧ (∀ b ∈ todo, b < m1 ∨ b ∈ res) ∧ (∀ b ∈ res, Known m1 M b (fun i => i ∈ res))
  | 0, _, _, _, h, _, _ => by simp [reach] at h
  | n + 1, found, [], res, h, hk, hd => by
    simp only [reach, Option.some.injEq] at h; subst h
    refine ⟨(by unfold List.Nodup at hd ⊢; rw [List.pairwise_reverse]; exact hd.imp (fun h => Ne.symm h)), fun b hb => by simpa using hb, by simp, fun b hb => ?_⟩
    obtain ⟨h1, cs, h2, h3⟩ := hk b (by simpa using hb)
    exact ⟨h1, cs, h2, fun i hi => (h3 i hi).imp id (fun e => by simpa using e)⟩
  | n + 1, found, b :: todo, res, h, hk, hd => by
    simp only [reach] at h
    cases hc : (Nat.blt b m1 || memb b found) with
    | true =>
      rw [hc, cond_true] at h
      simp only [Bool.or_eq_true, memb_mem] at hc
      obtain ⟨r1, r2, r3, r4⟩ := reach_ok n found todo res h (fun k hkf => by
        obtain ⟨h1, cs, h2, h3⟩ := hk k hkf
        refine ⟨h1, cs, h2, fun i hi => ?_⟩
        rcases h3 i hi with e | e | e
        · exact .inl e
        · exact .inr (.inl e)
        · rcases List.mem_cons.1 e with rfl | e
          · rcases hc with e2 | e2
            · exact .inl (bltT e2)
            · exact .inr (.inl e2)
          · exact .inr (.inr e)) hd
      refine ⟨r1, r2, fun k hkt => ?_, r4⟩
      rcases List.mem_cons.1 hkt with rfl | e
      · rcases hc with e2 | e2
        · exact .inl (bltT e2)
        · exact .inr (r2 _ e2)
      · exact r3 k e
    | false =>
      rw [hc, cond_false] at h
      simp only [Bool.or_eq_false_iff] at hc
      cases ho : objCells (M.get (b - m1)) with
      | none => rw [ho] at h; cases h
      | some cs =>
        rw [ho] at h
        have hnb : b ∉ found := fun e => by rw [memb_mem.2 e] at hc; cases hc.2
        obtain ⟨r1, r2, r3, r4⟩ := reach_ok n (b :: found) (AV.idsL cs ++ todo) res h (fun k hkf => by
          rcases List.mem_cons.1 hkf with rfl | e
          · exact ⟨bltN hc.1, cs, ho, fun i hi => .inr (.inr (by simp [hi]))⟩
          · obtain ⟨h1, cs', h2, h3⟩ := hk k e
            refine ⟨h1, cs', h2, fun i hi => ?_⟩
            rcases h3 i hi with e | e | e
            · exact .inl e
            · exact .inr (.inl (by simp [e]))
            · rcases List.mem_cons.1 e with rfl | e
              · exact .inr (.inl (by simp))
              · exact .inr (.inr (by simp [e]))) (List.nodup_cons.2 ⟨hnb, hd⟩)
        refine ⟨r1, fun k hkf => r2 k (by simp [hkf]), fun k hkt => ?_, r4⟩
        rcases List.mem_cons.1 hkt with rfl | e
        · exact .inr (r2 _ (by simp))
        · exact r3 k (by simp [e])
theorem posIn_ok : ∀ (l : List Nat) (k b : Nat), b ∈ l → ∃ i, posIn l k b = k + i ∧ l[i]? = some b
  | [], _, _, h => by simp at h
  | x :: l, k, b, h => by
    simp only [posIn]
    cases hx : Nat.beq x b with
    | true => exact ⟨0, by simp, by simp [beqT hx]⟩
    | false =>
      rw [cond_false]
      obtain ⟨i, h1, h2⟩ := posIn_ok l (k + 1) b ((List.mem_cons.1 h).resolve_left (fun e => beqN hx e.symm))
      exact ⟨i + 1, by rw [h1]; omega, by simpa using h2⟩
theorem takeObj_ok {m1 : Nat} {M : Mem} {ρ : Nat → Nat} : ∀ (found : List Nat) (l : List AObj), takeObj m1 M ρ found = some l → l.length = found.length ∧ ∀ (i b : Nat), found[i]? = some b → ∃ cs, objCells (M.get (b - m1)) = some cs ∧ l[i]? = some (AObj.cells (AV.renL ρ cs))
  | [], l, h => by simp only [takeObj, Option.some.injEq] at h; subst h; simp
  | x :: found, l, h => by
    simp only [takeObj] at h
    cases ho : objCells (M.get (x - m1)) with
    | none => rw [ho] at h; simp [renO, consO] at h
    | some cs => cases ht : takeObj m1 M ρ found with
      | none => rw [ho, ht] at h; simp [renO, consO] at h
      | some r =>
        rw [ho, ht] at h
        simp only [renO, consO, Option.some.injEq] at h; subst h
        obtain ⟨h1, h2⟩ := takeObj_ok found r ht
        refine ⟨by simp [h1], fun i b hb => ?_⟩
        cases i with
        | zero => simp only [List.getElem?_cons_zero, Option.some.injEq] at hb; subst hb; exact ⟨cs, ho, by simp⟩
        | succ i => simpa using h2 i b (by simpa using hb)

/-! ### Blocks that are laid one after the other -/
def upsOf : Nat → List AObj → Ups
  | _, [] => []
  | k, o :: l => (k, o) :: upsOf (k + 1) l
theorem heapOf_pushAll (E : Env) : ∀ (l : List AObj) (M : Mem), heapOf E (M.pushAll l) = applyUps (heapOf E M) (upsOf (E.m0 + M.n) l) ∧ (M.pushAll l).n = M.n + l.length
  | [], M => ⟨rfl, by simp [Mem.pushAll]⟩
  | o :: l, M => by
    obtain ⟨h1, h2⟩ := heapOf_pushAll E l (M.push o)
    simp only [Mem.pushAll, upsOf, applyUps]
    rw [← heapOf_push]
    refine ⟨h1, ?_⟩
    rw [h2]; simp [Mem.push]; omega
theorem upsOf_mem : ∀ (l : List AObj) (k : Nat) (u : Nat × AObj), u ∈ upsOf k l → k ≤ u.1 ∧ u.1 < k + l.length
  | [], _, _, h => by simp [upsOf] at h
  | o :: l, k, u, h => by
    rcases List.mem_cons.1 h with rfl | h
    · simp
    · have := upsOf_mem l (k + 1) u h
      simp only [List.length_cons]; omega
theorem applyUps_upsOf : ∀ (l : List AObj) (k : Nat) (H : Heap) (j : Nat), applyUps H (upsOf k l) j = if k ≤ j ∧ j < k + l.length then l[j - k]? else H j
  | [], k, H, j => by simp only [upsOf, applyUps, List.length_nil]; rw [if_neg (by omega)]
  | o :: l, k, H, j => by
    simp only [upsOf, applyUps, applyUps_upsOf l (k + 1), List.length_cons]
    by_cases h : k = j
    · subst h
      rw [if_neg (by omega), if_pos (by omega)]
      simp [Heap.upd]
    · by_cases h2 : k + 1 ≤ j ∧ j < k + 1 + l.length
      · rw [if_pos h2, if_pos (by omega), show j - k = (j - (k + 1)) + 1 by omega]
        simp
      · rw [if_neg h2, if_neg (by omega)]
        unfold Heap.upd
        rw [if_neg (fun e => h e.symm)]
end Go.Sx
/- S, text D: the contracts of calls and of code; a call on a memory of its own. -/
namespace Go.Sx
open Go.RowKit

structure TabOK (P : Program) (tab : Tab) : Prop where
  ty : ∀ t i, tab.ty t = some i → TyOK P t i
  fn : ∀ (f : Nat) (fn : Func), tab.fn f = some fn → P.funcs[f]? = some fn ∧ (fn.name == "runtime.NumGoroutine") = false ∧ ∃ c, fn.body = some c ∧ codeOk fn.ntmps c = true
  mixed : P.follows .mixedOrders = true
  prim : ∀ f, tab.prim f = true → ∀ w, CallsIn Fence.wide 0 P f #[] w (fun e w' => e = .returned (.bool true) ∧ Below w.heap.size w w')
def FE (E : Env) (F : Fence) : Prop := (E.rnd = false ∧ F = Fence.wide) ∨ (E.rnd = true ∧ ∃ l, F = Fence.wide.inRound l)
def NewIn (φ φ' : Phi) (lo hi : Nat) : Prop := ∀ k, φ' k ≠ φ k → lo ≤ k ∧ k < hi
def Free (φ : Phi) (lo : Nat) : Prop := ∀ k, lo ≤ k → φ k = none
theorem Free.new {φ φ' : Phi} {lo hi : Nat} (h : Free φ lo) (hn : NewIn φ φ' lo hi) (hle : lo ≤ hi) : Free φ' hi := fun k hk => by
  by_cases e : φ' k = φ k
  · rw [e]; exact h k (by omega)
  · have := hn k e; omega
theorem NewIn.trans {φ φ' φ'' : Phi} {a b c : Nat} (h : NewIn φ φ' a b) (k : NewIn φ' φ'' b c) (hab : a ≤ b) (hbc : b ≤ c) : NewIn φ φ'' a c := fun j hj => by
  by_cases e : φ' j = φ j
  · have := k j (by rw [e]; exact hj); omega
  · have := h j e; omega
/-- All that an operation has done, where the heap is the frame's memory. -/
def Whole (w w0 : World) (φ : Phi) (E : Env) (M : Mem) (v : AV) (M' : Mem) (vC : Value) (w' : World) : Prop :=
  ∃ φ', VR φ' v vC ∧ φ.Le φ' ∧ NewIn φ φ' (E.m0 + M.n) (E.m0 + M'.n) ∧ Inv φ' w0 (heapOf E M') w' ∧ M.n ≤ M'.n ∧ KW w w'
theorem Good.whole {w w0 : World} {φ : Phi} {E : Env} {M M' : Mem} {v : AV} {vC : Value} {w' : World} {W : List Nat} (h : Good w w0 φ (heapOf E M) E M (.ok (.value vC) w') v M' W) : Whole w w0 φ E M v M' vC w' := by
  obtain ⟨nx, vC', w2, φ', ups, g1, g2, g3, g4, g5, g6, g7, g8, g9, g10⟩ := h
  cases g1
  rcases g2 with e | ⟨e, _⟩
  · cases e
    exact ⟨φ', g3, g4, g5, by rw [g7]; exact g6, g9, g10⟩
  · cases e
def CPost (w w0 : World) (φ : Phi) (E : Env) (M : Mem) (v : AV) (M' : Mem) : Ending → World → Prop := fun e w' => ∃ vC, e = .returned vC ∧ Whole w w0 φ E M v M' vC w'
def CallSpec (P : Program) (tab : Tab) (ih : Ih) : Prop :=
  ∀ (E : Env) (f : Nat) (args : List AV) (M : Mem) (v : AV) (M' : Mem), ih.call E f args M = some (v, M') → E.rnd = false → (∃ fn, tab.fn f = some fn) ∧
    ∀ (φ : Phi) (w0 w : World) (vs : List Value), RoOK φ E w0 → Inv φ w0 (heapOf E M) w → VRL φ args vs → Free φ (E.m0 + M.n) → CallsIn Fence.wide 0 P f vs.toArray w (CPost w w0 φ E M v M')

/-! ### Deferred marks -/
structure DefOK (w0 : World) (dlo : Nat) (ds : List Deferred) (w : World) : Prop where
  lo : w0.heap.size ≤ dlo
  hi : dlo ≤ w.heap.size
  gs : ∃ gs : List Nat, ds = gs.map (fun g => { target := .collected g, args := #[] }) ∧ gs.Nodup ∧ ∀ g ∈ gs, dlo ≤ g ∧ w.heap[g]? = some (Obj.deferred (some []))
theorem DefOK.keep {w0 w w' : World} {dlo : Nat} {ds : List Deferred} (h : DefOK w0 dlo ds w) (hk : KW w w') : DefOK w0 dlo ds w' := by
  obtain ⟨gs, h1, h2, h3⟩ := h.gs
  exact ⟨h.lo, Nat.le_trans h.hi hk.1, gs, h1, h2, fun g hg => ⟨(h3 g hg).1, hk.2 _ _ (h3 g hg).2⟩⟩

/-! ### Code -/
structure St (E : Env) (φ : Phi) (w0 : World) (M : Mem) (T : Tbl AV) (dlo : Nat) (a : Act) (w : World) : Prop where
  ro : RoOK φ E w0
  inv : Inv φ w0 (heapOf E M) w
  free : Free φ (E.m0 + M.n)
  tr : TR φ T a.tmps
  dfr : DefOK w0 dlo a.defers w
def exOf : Ex → Exit
  | .normal => .normal
  | .exit id => .exit id
  | .ret => .ret
structure KPost (E : Env) (φ : Phi) (w0 : World) (M : Mem) (dlo : Nat) (a : Act) (w : World) (x : Ex) (T' : Tbl AV) (M' : Mem) (e : Exit) (a' : Act) (w' : World) : Prop where
  ex : e = exOf x
  st : ∃ φ', φ.Le φ' ∧ NewIn φ φ' (E.m0 + M.n) (E.m0 + M'.n) ∧ St E φ' w0 M' T' dlo a' w'
  tmps : a'.tmps.size = a.tmps.size
  le : M.n ≤ M'.n
  kw : KW w w'
def CodeSpec (P : Program) (ih : Ih) (n : Nat) : Prop :=
  ∀ (E : Env) (c : Code) (T : Tbl AV) (M : Mem) (x : Ex) (T' : Tbl AV) (M' : Mem), ih.code E c T M = some (x, T', M') →
    ∀ (F : Fence) (φ : Phi) (w0 : World) (dlo : Nat) (a : Act) (w : World) (Q : Exit → Act → World → Prop), FE E F → codeOk a.tmps.size c = true → St E φ w0 M T dlo a w →
      (∀ e a' w', KPost E φ w0 M dlo a w x T' M' e a' w' → Q e a' w') → c.wpIn F 0 P Q a w ∧ ∀ b, c = .loop b → Code.roundsIn F 0 P b Q n a w

/-! ### A call on a memory of its own -/
section
variable {P : Program} {tab : Tab} {E : Env} {w0 : World} {φ : Phi} {H : Heap} {w : World} {M M' : Mem} {v : AV}

theorem Mem.get_nil (i : Nat) : Mem.nil.get i = none := by unfold Mem.get Mem.nil; rw [bltOfN (Nat.zero_le _)]; rfl
theorem addTo_some {x : Option (AV × List AObj)} (h : addTo M x = some (v, M')) : ∃ l, x = some (v, l) ∧ M' = M.pushAll l := by
  unfold addTo at h
  split at h
  · cases h; exact ⟨_, rfl, rfl⟩
  · cases h
/-- What the caller has of a call that has gone through: the blocks that the result reaches. -/
theorem compact_ok {base m1 : Nat} {vc v : AV} {Mc : Mem} {l : List AObj} {φc : Phi} {vC : Value} {w' : World} (h : compact base m1 vc Mc = some (v, l)) (hbase : base = E.m0 + M.n) (hm1 : base ≤ m1)
    (hI : Inv φ w0 H w) (hIc : Inv φc w (heapOf { ro := fun _ => none, m0 := m1, rnd := false } Mc) w') (hle : φ.Le φc) (hnew : ∀ k, φc k ≠ φ k → m1 ≤ k) (hv : VR φc vc vC) (hfree : ∀ k, base ≤ k → k < base + l.length → φ k = none)
    (hkw : KW w w') {W : List Nat} : Good w w0 φ H E M (.ok (.value vC) w') v (M.pushAll l) W := by
  have hlow : ∀ i x, i < m1 → φc i = some x → φ i = some x := fun i x hi hx => by
    by_cases e : φc i = φ i
    · rw [← e]; exact hx
    · have := hnew i e; omega
  obtain ⟨hp1, hp2⟩ := heapOf_pushAll E l M
  have hI' : Inv φ w0 H w' := hI.later hIc.below
  unfold compact at h
  have hcase : (AV.ids vc = [] ∧ v = vc ∧ l = []) ∨ ∃ found, reach m1 Mc 100000 [] (AV.ids vc) = some found ∧ takeObj m1 Mc (newNo base m1 found) found = some l ∧ v = AV.ren (newNo base m1 found) vc := by
    cases hids : AV.ids vc with
    | nil => rw [hids] at h; simp only [compact1, Option.some.injEq, Prod.mk.injEq] at h; exact .inl ⟨rfl, h.1.symm, h.2.symm⟩
    | cons a r =>
      rw [hids] at h
      simp only [compact1] at h
      cases hr : reach m1 Mc 100000 [] (a :: r) with
      | none => rw [hr] at h; simp [compact2] at h
      | some found =>
        rw [hr] at h
        simp only [compact2] at h
        cases ht : takeObj m1 Mc (newNo base m1 found) found with
        | none => rw [ht] at h; simp [pairO] at h
        | some l' =>
          rw [ht] at h
          simp only [pairO, Option.some.injEq, Prod.mk.injEq] at h
          obtain ⟨rfl, rfl⟩ := h
          exact .inr ⟨found, rfl, ht, rfl⟩
  rcases hcase with ⟨h1, rfl, rfl⟩ | ⟨found, hr, ht, rfl⟩
  · refine ⟨_, vC, w', φ, [], rfl, .inl rfl, hv.swap (by rw [h1]; simp), Phi.Le.refl φ, fun k hk => absurd rfl hk, hI', rfl, by simp, by rw [hp2]; omega, hkw⟩
  · obtain ⟨hnd, _, hids, hknown⟩ := reach_ok _ _ _ _ hr (by simp) (by simp)
    obtain ⟨hlen, hobj⟩ := takeObj_ok _ _ ht
    let φ' : Phi := fun k => if base ≤ k ∧ k < base + found.length then (found[k - base]?).bind φc else φ k
    have hφnew : ∀ (i b : Nat), found[i]? = some b → φ' (base + i) = φc b := fun i b hb => by
      have hi := (List.getElem?_eq_some_iff.1 hb).1
      show (if _ then _ else _) = _
      rw [if_pos (by omega), show base + i - base = i by omega, hb]; rfl
    have hφold : ∀ k, ¬ (base ≤ k ∧ k < base + found.length) → φ' k = φ k := fun k hk => by
      show (if _ then _ else _) = _
      rw [if_neg hk]
    have hle' : φ.Le φ' := fun k x hx => by
      by_cases hk : base ≤ k ∧ k < base + found.length
      · rw [hfree k hk.1 (by omega)] at hx; cases hx
      · rw [hφold k hk]; exact hx
    have hren : ∀ i, (i < m1 ∨ i ∈ found) → ∀ x, φc i = some x → φ' (newNo base m1 found i) = some x := fun i hi x hx => by
      unfold newNo
      by_cases hlt : i < m1
      · rw [bltOf hlt, cond_true]
        exact hle' _ _ (hlow i x hlt hx)
      · rw [bltOfN (by omega), cond_false]
        obtain ⟨j, p1, p2⟩ := posIn_ok found 0 i (hi.resolve_left hlt)
        rw [p1, Nat.zero_add, hφnew j i p2]; exact hx
    refine ⟨_, vC, w', φ', upsOf base l, rfl, .inl rfl, VR.ren _ _ hv (fun i hi => hren i (hids i hi)), hle', ?_, ?_, by rw [hp1, hbase], ?_, by rw [hp2]; omega, hkw⟩
    · intro k hk
      by_cases hk2 : base ≤ k ∧ k < base + found.length
      · rw [hp2]; omega
      · exact absurd (hφold k hk2) hk
    · have hHl : ∀ (k : Nat) (o : AObj), applyUps H (upsOf base l) k = some o → (∃ (i b : Nat) (cs : List AV), k = base + i ∧ found[i]? = some b ∧ objCells (Mc.get (b - m1)) = some cs ∧ o = .cells (AV.renL (newNo base m1 found) cs)) ∨ H k = some o := by
        intro k o hk
        rw [applyUps_upsOf] at hk
        split at hk
        · rename_i hr2
          have hi : k - base < found.length := by omega
          obtain ⟨cs, c1, c2⟩ := hobj (k - base) found[k - base] (by simp [hi])
          rw [c2] at hk; cases hk
          exact .inl ⟨k - base, found[k - base], cs, by omega, by simp [hi], c1, rfl⟩
        · exact .inr hk
      have hnewobj : ∀ (i b : Nat) (cs : List AV), found[i]? = some b → objCells (Mc.get (b - m1)) = some cs → ∃ g bs ext, φc b = some (g, bs, ext) ∧ w.heap.size ≤ g ∧ BlkAt φ' (AV.renL (newNo base m1 found) cs) w' g bs ext true := by
        intro i b cs hb hc
        obtain ⟨hbm, cs', k1, k2⟩ := hknown b (List.mem_of_getElem? hb)
        rw [hc] at k1; cases k1
        have hH : heapOf { ro := fun _ => none, m0 := m1, rnd := false } Mc b = some (.cells cs) := by
          simp only [heapOf, if_neg (Nat.not_lt.2 hbm)]; exact objCells_some hc
        obtain ⟨g, bs, ext, e1, e2, c, e, fr, q1, q2, q3, q4, q5⟩ := hIc.obj b _ hH
        refine ⟨g, bs, ext, e1, e2, c, e, fr, q1, q2, by rw [renL_length]; exact q3, fun j a ha => ?_, q5⟩
        rw [renL_get] at ha
        cases haj : cs[j]? with
        | none => rw [haj] at ha; cases ha
        | some a0 =>
          rw [haj] at ha
          simp only [Option.map_some, Option.some.injEq] at ha
          subst ha
          obtain ⟨u, u1, u2⟩ := q4 j a0 haj
          exact ⟨u, u1, VR.ren _ _ u2 (fun i hi => hren i (k2 i (mem_idsL haj hi)))⟩
      refine ⟨hI'.below, fun k o hk => ?_, fun k k' o o' x x' hne hk hk' hd hd' hx hx' => ?_⟩
      · rcases hHl k o hk with ⟨i, b, cs, rfl, hb, hc, rfl⟩ | hold
        · obtain ⟨g, bs, ext, e1, e2, e3⟩ := hnewobj i b cs hb hc
          exact ⟨g, bs, ext, by rw [hφnew i b hb]; exact e1, Nat.le_trans hI.below.size e2, e3⟩
        · exact (hI'.obj k o hold).mono hle'
      · rcases hHl k o hk with ⟨i, b, cs, rfl, hb, hc, rfl⟩ | hold
        · obtain ⟨g, bs, ext, e1, e2, e3⟩ := hnewobj i b cs hb hc
          rw [hφnew i b hb, e1] at hx; cases hx
          rcases hHl k' o' hk' with ⟨i', b', cs', rfl, hb', hc', rfl⟩ | hold'
          · obtain ⟨g', bs', ext', e1', e2', e3'⟩ := hnewobj i' b' cs' hb' hc'
            rw [hφnew i' b' hb', e1'] at hx'; cases hx'
            have hbb : b ≠ b' := fun e => by
              subst e
              have hi := (List.getElem?_eq_some_iff.1 hb).1
              have := (List.getElem?_inj hi hnd).1 (hb.trans hb'.symm)
              omega
            obtain ⟨hbm, _⟩ := hknown b (List.mem_of_getElem? hb)
            obtain ⟨hbm', _⟩ := hknown b' (List.mem_of_getElem? hb')
            exact hIc.sep b b' (.cells cs) (.cells cs') _ _ hbb (by simp only [heapOf, if_neg (Nat.not_lt.2 hbm)]; exact objCells_some hc) (by simp only [heapOf, if_neg (Nat.not_lt.2 hbm')]; exact objCells_some hc') rfl rfl e1 e1'
          · obtain ⟨y, y1, _, y2⟩ := (hI.obj k' o' hold').place hd'
            rw [hle' _ _ y1] at hx'; cases hx'
            simp only; omega
        · obtain ⟨y, y1, _, y2⟩ := (hI.obj k o hold).place hd
          rw [hle' _ _ y1] at hx; cases hx
          rcases hHl k' o' hk' with ⟨i', b', cs', rfl, hb', hc', rfl⟩ | hold'
          · obtain ⟨g', bs', ext', e1', e2', e3'⟩ := hnewobj i' b' cs' hb' hc'
            rw [hφnew i' b' hb', e1'] at hx'; cases hx'
            simp only; omega
          · obtain ⟨y', y1', _⟩ := (hI.obj k' o' hold').place hd'
            rw [hle' _ _ y1'] at hx'; cases hx'
            exact hI'.sep k k' o o' _ _ hne hold hold' hd hd' y1 y1'
    · intro u hu
      right
      have := upsOf_mem l base u hu
      rw [hp2]; omega
theorem shiftNo_lt {base m1 i : Nat} (h : i < m1) : shiftNo base m1 i = i := by unfold shiftNo; rw [bltOf h, cond_true]
theorem shiftNo_ge {base m1 i : Nat} (h : m1 ≤ i) : shiftNo base m1 i = base + (i - m1) := by unfold shiftNo; rw [bltOfN h, cond_false]
/-- What the caller has of a call that has gone through: all of its blocks. -/
theorem keep_ok {base m1 : Nat} {vc : AV} {Mc : Mem} {φc : Phi} {vC : Value} {w' : World} (hbase : base = E.m0 + M.n) (hm1 : base ≤ m1)
    (hI : Inv φ w0 H w) (hIc : Inv φc w (heapOf { ro := fun _ => none, m0 := m1, rnd := false } Mc) w') (hle : φ.Le φc) (hnew : ∀ k, φc k ≠ φ k → m1 ≤ k ∧ k < m1 + Mc.n) (hbig : Free φ m1) (hv : VR φc vc vC)
    (hfree : ∀ k, base ≤ k → k < base + Mc.n → φ k = none)
    (hkw : KW w w') {W : List Nat} : Good w w0 φ H E M (.ok (.value vC) w') (vc.ren (shiftNo base m1)) (M.pushAll (keepAll (shiftNo base m1) Mc)) W := by
  have hlow : ∀ i x, i < m1 → φc i = some x → φ i = some x := fun i x hi hx => by
    by_cases e : φc i = φ i
    · rw [← e]; exact hx
    · have := (hnew i e).1; omega
  have hhigh : ∀ i x, m1 ≤ i → φc i = some x → i < m1 + Mc.n := fun i x hi hx => by
    by_cases e : φc i = φ i
    · rw [e, hbig i hi] at hx; cases hx
    · exact (hnew i e).2
  generalize hl : keepAll (shiftNo base m1) Mc = l
  have hll : l.length = Mc.n := by rw [← hl]; simp [keepAll]
  have hlg : ∀ i, i < Mc.n → l[i]? = some (keepObj (shiftNo base m1) (Mc.get i)) := fun i hi => by rw [← hl]; simp [keepAll, hi]
  obtain ⟨hp1, hp2⟩ := heapOf_pushAll E l M
  have hI' : Inv φ w0 H w' := hI.later hIc.below
  let φ' : Phi := fun k => if base ≤ k ∧ k < base + Mc.n then φc (m1 + (k - base)) else φ k
  have hφnew : ∀ i, i < Mc.n → φ' (base + i) = φc (m1 + i) := fun i hi => by
    show (if _ then _ else _) = _
    rw [if_pos (by omega), show base + i - base = i by omega]
  have hφold : ∀ k, ¬ (base ≤ k ∧ k < base + Mc.n) → φ' k = φ k := fun k hk => by
    show (if _ then _ else _) = _
    rw [if_neg hk]
  have hle' : φ.Le φ' := fun k x hx => by
    by_cases hk : base ≤ k ∧ k < base + Mc.n
    · rw [hfree k hk.1 (by omega)] at hx; cases hx
    · rw [hφold k hk]; exact hx
  have hren : ∀ i x, φc i = some x → φ' (shiftNo base m1 i) = some x := fun i x hx => by
    by_cases hlt : i < m1
    · rw [shiftNo_lt hlt]; exact hle' _ _ (hlow i x hlt hx)
    · have h1 := hhigh i x (by omega) hx
      rw [shiftNo_ge (by omega), hφnew _ (by omega), show m1 + (i - m1) = i by omega]; exact hx
  refine ⟨_, vC, w', φ', upsOf base l, rfl, .inl rfl, VR.ren _ _ hv (fun i _ => hren i), hle', ?_, ?_, by rw [hp1, hbase], ?_, by rw [hp2]; omega, hkw⟩
  · intro k hk
    by_cases hk2 : base ≤ k ∧ k < base + Mc.n
    · rw [hp2]; omega
    · exact absurd (hφold k hk2) hk
  · have hHl : ∀ (k : Nat) (o : AObj), applyUps H (upsOf base l) k = some o → (∃ i, i < Mc.n ∧ k = base + i ∧ o = keepObj (shiftNo base m1) (Mc.get i)) ∨ H k = some o := by
      intro k o hk
      rw [applyUps_upsOf] at hk
      split at hk
      · rename_i hr2
        have hi : k - base < Mc.n := by omega
        rw [hlg _ hi] at hk; cases hk
        exact .inl ⟨k - base, hi, by omega, rfl⟩
      · exact .inr hk
    have hHc : ∀ i o, i < Mc.n → Mc.get i = some o → heapOf { ro := fun _ => none, m0 := m1, rnd := false } Mc (m1 + i) = some o := fun i o hi ho => by
      simp only [heapOf]
      rw [if_neg (by omega), show m1 + i - m1 = i by omega]; exact ho
    have hcells : ∀ (i : Nat) (cs : List AV), i < Mc.n → Mc.get i = some (.cells cs) → ∃ g bs ext, φc (m1 + i) = some (g, bs, ext) ∧ w.heap.size ≤ g ∧ BlkAt φ' (AV.renL (shiftNo base m1) cs) w' g bs ext true := by
      intro i cs hi hc
      obtain ⟨g, bs, ext, e1, e2, c, e, fr, q1, q2, q3, q4, q5⟩ := hIc.obj (m1 + i) _ (hHc i _ hi hc)
      refine ⟨g, bs, ext, e1, e2, c, e, fr, q1, q2, by rw [renL_length]; exact q3, fun j a ha => ?_, q5⟩
      rw [renL_get] at ha
      cases haj : cs[j]? with
      | none => rw [haj] at ha; cases ha
      | some a0 =>
        rw [haj] at ha
        simp only [Option.map_some, Option.some.injEq] at ha
        subst ha
        obtain ⟨u, u1, u2⟩ := q4 j a0 haj
        exact ⟨u, u1, VR.ren _ _ u2 (fun i _ => hren i)⟩
    have hlive : ∀ i, isDead (keepObj (shiftNo base m1) (Mc.get i)) = false → ∃ cs, Mc.get i = some (.cells cs) := fun i hd => by
      cases hg : Mc.get i with
      | none => rw [hg] at hd; simp [keepObj, isDead] at hd
      | some o => cases o with
        | cells cs => exact ⟨cs, rfl⟩
        | loop r => rw [hg] at hd; simp [keepObj, isDead] at hd
        | dead => rw [hg] at hd; simp [keepObj, isDead] at hd
    refine ⟨hI'.below, fun k o hk => ?_, fun k k' o o' x x' hne hk hk' hd hd' hx hx' => ?_⟩
    · rcases hHl k o hk with ⟨i, hi, rfl, rfl⟩ | hold
      · cases hd : isDead (keepObj (shiftNo base m1) (Mc.get i)) with
        | true => cases hko : keepObj (shiftNo base m1) (Mc.get i) <;> first | trivial | (rw [hko] at hd; simp [isDead] at hd)
        | false =>
          obtain ⟨cs, hc⟩ := hlive i hd
          obtain ⟨g, bs, ext, e1, e2, e3⟩ := hcells i cs hi hc
          rw [hc]
          exact ⟨g, bs, ext, by rw [hφnew i hi]; exact e1, Nat.le_trans hI.below.size e2, e3⟩
      · exact (hI'.obj k o hold).mono hle'
    · rcases hHl k o hk with ⟨i, hi, rfl, rfl⟩ | hold
      · obtain ⟨cs, hc⟩ := hlive i hd
        obtain ⟨g, bs, ext, e1, e2, e3⟩ := hcells i cs hi hc
        rw [hφnew i hi, e1] at hx; cases hx
        rcases hHl k' o' hk' with ⟨i', hi', rfl, rfl⟩ | hold'
        · obtain ⟨cs', hc'⟩ := hlive i' hd'
          obtain ⟨g', bs', ext', e1', e2', e3'⟩ := hcells i' cs' hi' hc'
          rw [hφnew i' hi', e1'] at hx'; cases hx'
          exact hIc.sep (m1 + i) (m1 + i') (.cells cs) (.cells cs') _ _ (by omega) (hHc i _ hi hc) (hHc i' _ hi' hc') rfl rfl e1 e1'
        · obtain ⟨y, y1, _, y2⟩ := (hI.obj k' o' hold').place hd'
          rw [hle' _ _ y1] at hx'; cases hx'
          simp only; omega
      · obtain ⟨y, y1, _, y2⟩ := (hI.obj k o hold).place hd
        rw [hle' _ _ y1] at hx; cases hx
        rcases hHl k' o' hk' with ⟨i', hi', rfl, rfl⟩ | hold'
        · obtain ⟨cs', hc'⟩ := hlive i' hd'
          obtain ⟨g', bs', ext', e1', e2', e3'⟩ := hcells i' cs' hi' hc'
          rw [hφnew i' hi', e1'] at hx'; cases hx'
          simp only; omega
        · obtain ⟨y', y1', _⟩ := (hI'.obj k' o' hold').place hd'
          rw [hle' _ _ y1'] at hx'; cases hx'
          exact hI'.sep k k' o o' _ _ hne hold hold' hd hd' y1 y1'
  · intro u hu
    right
    have := upsOf_mem l base u hu
    rw [hp2]; omega
theorem pcall_ok {ih : Ih} (hC : CallSpec P tab ih) (hA : At P tab E w0 φ H w) {hid : Nat → Bool} {g : Nat} {args : List AV} {vs : List Value} (h : pcall tab ih E hid g args M = some (v, M')) (hargs : VRL φ args vs)
    (hvis : ∀ b, hid b = false → b < E.m0 + M.n → Seen E M H b) (hfree : ∀ k, E.m0 + M.n ≤ k → k < E.m0 + M'.n → φ k = none) (hbig : Free φ (E.m0 + M.n + tab.big)) {W : List Nat} :
    (∃ fn, tab.fn g = some fn) ∧ CallsIn Fence.wide 0 P g vs.toArray w (fun e w' => ∃ vC, e = .returned vC ∧ Good w w0 φ H E M (.ok (.value vC) w') v M' W) := by
  unfold pcall pcallAt at h
  generalize hm1 : E.m0 + M.n + tab.big = m1 at h hbig
  obtain ⟨l, hc, rfl⟩ := addTo_some h
  cases hcall : ih.call { ro := roOf E hid M, m0 := m1, rnd := false } g args Mem.nil with
  | none => rw [hcall] at hc; simp [compactR] at hc
  | some r =>
    obtain ⟨vc, Mc⟩ := r
    rw [hcall] at hc
    simp only [compactR] at hc
    obtain ⟨hfn, hcs⟩ := hC _ _ _ _ _ _ hcall rfl
    refine ⟨hfn, ?_⟩
    have hnil : ∀ b, heapOf { ro := roOf E hid M, m0 := m1, rnd := false } Mem.nil b = none := fun b => by
      simp only [heapOf]
      split
      · rfl
      · exact Mem.get_nil _
    refine (hcs φ w w vs ?_ ?_ hargs ?_).mono ?_
    · intro b cs hb hr
      simp only [roOf] at hr
      cases hh : hid b with
      | true => rw [hh] at hr; cases hr
      | false =>
        rw [hh, cond_false] at hr
        refine hA.vis (M := M) (hvis b hh ?_) hr
        unfold cellsOf at hr
        cases hlt : Nat.blt b E.m0 with
        | true => have := bltT hlt; omega
        | false =>
          rw [hlt, cond_false] at hr
          have := objCells_get hr
          have := bltN hlt
          omega
    · exact ⟨Below.refl _ _, fun b o hb => (by rw [hnil] at hb; cases hb), fun b b' o o' x x' _ hb => (by rw [hnil] at hb; cases hb)⟩
    · simp only [Mem.nil, Nat.add_zero]; exact hbig
    · rintro e w' ⟨vC, rfl, φc, c1, c2, c3, c4, c5, c6⟩
      refine ⟨vC, rfl, ?_⟩
      obtain ⟨hp1, hp2⟩ := heapOf_pushAll E l M
      cases hkp : tab.keep with
      | false =>
        rw [hkp, cond_false] at hc
        refine compact_ok hc rfl (by omega) hA.inv c4 c2 (fun k hk => ?_) c1 (fun k hk hk2 => hfree k hk (by rw [hp2]; omega)) c6
        have := (c3 k hk).1
        simpa [Mem.nil] using this
      | true =>
        rw [hkp, cond_true, Option.some.injEq, Prod.mk.injEq] at hc
        obtain ⟨rfl, rfl⟩ := hc
        have hln : (keepAll (shiftNo (E.m0 + M.n) m1) Mc).length = Mc.n := by simp [keepAll]
        refine keep_ok rfl (by omega) hA.inv c4 c2 (fun k hk => ?_) hbig c1 (fun k hk hk2 => hfree k hk (by rw [hp2, hln]; omega)) c6
        have := c3 k hk
        simpa [Mem.nil] using this
end
end Go.Sx
/- S, text E: one operation, calls and rounds among them. -/
namespace Go.Sx
open Go.RowKit
section
variable {P : Program} {tab : Tab} {E : Env} {w0 : World} {φ : Phi} {H : Heap} {w : World} {M M' : Mem} {v : AV}

theorem FE.calls {F : Fence} (hF : FE E F) {f : FuncId} {args : Array Value} {R : Ending → World → Prop} (h : CallsIn Fence.wide 0 P f args w R) : CallsIn F 0 P f args w R := by
  rcases hF with ⟨_, rfl⟩ | ⟨_, l, rfl⟩
  · exact h
  · exact h.inRound l
theorem FE.fn {F : Fence} (hF : FE E F) (f : FuncId) : F.fn f := by
  rcases hF with ⟨_, rfl⟩ | ⟨_, l, rfl⟩ <;> trivial
theorem FE.depth {F : Fence} (hF : FE E F) : F.depth.isSome = true → 1 ≤ 0 := by
  rcases hF with ⟨_, rfl⟩ | ⟨_, l, rfl⟩ <;> (intro h; simp [Fence.wide] at h)
theorem FE.inRound {F : Fence} (hF : FE E F) (g : Nat) : FE { E with rnd := true } (F.inRound g) := by
  rcases hF with ⟨_, rfl⟩ | ⟨_, l, rfl⟩ <;> exact .inr ⟨rfl, g, rfl⟩
theorem grownBy_putObj (w : World) (g : Nat) (o : Obj) : w.grownBy (w.putObj g o) (some g) :=
  ⟨rfl, rfl, rfl, by simp [World.putObj], fun k _ hk => by
    have : k ≠ g := fun e => hk (by rw [e])
    simp [World.putObj, Array.getElem?_setIfInBounds_ne (Ne.symm this)]⟩
theorem putObj_same {w : World} {g : Nat} {o o' : Obj} (h : w.heap[g]? = some o) : (w.putObj g o').heap[g]? = some o' := by
  have hlt := (Array.getElem?_eq_some_iff.1 h).1
  simp [World.putObj, hlt]
/-- A loop's record is laid anew. -/
theorem loop_put (hI : Inv φ w0 H w) {b g : Nat} {r r2 : ALoop} {rec rec2 : Loop} (hH : H b = some (.loop r)) (hφ : φ b = some (g, 0, 0)) (hg : w.heap[g]? = some (.loop rec)) (hB : w0.heap.size ≤ g) (hr : LoopR φ r2 rec2) :
    Inv φ w0 (H.upd b (.loop r2)) (w.putObj g (.loop rec2)) ∧ KW w (w.putObj g (.loop rec2)) :=
  ⟨hI.write hH rfl hφ (grownBy_putObj w g _) ⟨g, rec2, hφ, hB, putObj_same hg, hr⟩, KW.of_grown (grownBy_putObj w g _) (fun x hx => by rw [hg] at hx; cases hx)⟩
theorem loop_dead (hI : Inv φ w0 H w) {b g : Nat} {r : ALoop} {rec rec2 : Loop} (hH : H b = some (.loop r)) (hφ : φ b = some (g, 0, 0)) (hg : w.heap[g]? = some (.loop rec)) :
    Inv φ w0 (H.upd b .dead) (w.putObj g (.loop rec2)) ∧ KW w (w.putObj g (.loop rec2)) :=
  ⟨hI.write hH rfl hφ (grownBy_putObj w g _) trivial, KW.of_grown (grownBy_putObj w g _) (fun x hx => by rw [hg] at hx; cases hx)⟩
theorem loopAt_some {i : Nat} {r : ALoop} (h : loopAt M i = some r) : M.get i = some (.loop r) := by
  unfold loopAt at h
  split at h
  · cases h; assumption
  · cases h
theorem loop_at (hI : Inv φ w0 (heapOf E M) w) {i : Nat} {r : ALoop} (h : loopAt M i = some r) : heapOf E M (E.m0 + i) = some (.loop r) ∧ i < M.n ∧ ∃ g rec, φ (E.m0 + i) = some (g, 0, 0) ∧ w0.heap.size ≤ g ∧ w.heap[g]? = some (.loop rec) ∧ LoopR φ r rec := by
  have hg := loopAt_some h
  have hH : heapOf E M (E.m0 + i) = some (.loop r) := by
    simp only [heapOf, if_neg (show ¬ (E.m0 + i < E.m0) by omega)]
    rw [show E.m0 + i - E.m0 = i by omega]; exact hg
  exact ⟨hH, Mem.get_lt hg, hI.obj _ _ hH⟩
theorem zip_ok : ∀ (ps : List Nat) (vs : List AV) (ws : List Value) (T T1 : Tbl AV) (tmps : Array Value), zipT ps vs T = some T1 → VRL φ vs ws → TR φ T tmps → (∀ p ∈ ps, p < tmps.size) →
    ps.length = ws.length ∧ TR φ T1 ((ps.zip ws).foldl (fun tmps (p : Nat × Value) => tmps.setIfInBounds p.1 p.2) tmps) ∧ ((ps.zip ws).foldl (fun tmps (p : Nat × Value) => tmps.setIfInBounds p.1 p.2) tmps).size = tmps.size
  | [], [], ws, T, T1, tmps, h, hv, ht, _ => by
    simp only [VRL] at hv; subst hv
    simp only [zipT, Option.some.injEq] at h; subst h
    exact ⟨rfl, ht, rfl⟩
  | [], _ :: _, _, _, _, _, h, _, _, _ => by simp [zipT] at h
  | _ :: _, [], _, _, _, _, h, _, _, _ => by simp [zipT] at h
  | p :: ps, a :: vs, ws, T, T1, tmps, h, hv, ht, hp => by
    simp only [VRL] at hv
    obtain ⟨x, r, rfl, hx, hr⟩ := hv
    simp only [zipT] at h
    obtain ⟨k1, k2, k3⟩ := zip_ok ps vs r (T.set p a) T1 (tmps.setIfInBounds p x) h hr (ht.set (hp p (by simp)) hx) (fun q hq => by simpa using hp q (by simp [hq]))
    exact ⟨by simp [k1], by simpa using k2, by simpa using k3⟩

/-- A round of a range over a function. -/
theorem yield_ok {n : Nat} {ih : Ih} (hK : CodeSpec P ih n) {F : Fence} (hF : FE E F) (hro : RoOK φ E w0) (hI : Inv φ w0 (heapOf E M) w) (hfree : Free φ (E.m0 + M.n)) {l : Nat} {args : List AV} {ws : List Value} (h : yieldA ih E l args M = some (v, M')) (hargs : VRL φ args ws)
    {g : Nat} (hφ : φ l = some (g, 0, 0)) {R : Ending → World → Prop} (hR : ∀ vC w', Whole w w0 φ E M v M' vC w' → R (.returned vC) w') :
    ∃ rec, w.heap[g]? = some (.loop rec) ∧ ws.length = rec.params.size ∧ RoundIn F 0 P g rec.fn ((rec.params.zip ws.toArray).foldl (fun tmps (t, a) => tmps.setIfInBounds t a) rec.tmps) rec.assign rec.body w R := by
  unfold yieldA at h
  cases hlt : Nat.blt l E.m0 with
  | true => rw [hlt] at h; cases h
  | false =>
    rw [hlt, cond_false] at h
    have hle := bltN hlt
    generalize hi : l - E.m0 = i at h
    obtain rfl : l = E.m0 + i := by omega
    cases hl : loopAt M i with
    | none => rw [hl] at h; simp [round0] at h
    | some r =>
      rw [hl] at h
      simp only [round0] at h
      obtain ⟨hH, hin, g', rec, hφ', hB, hg, hL⟩ := loop_at hI hl
      rw [hφ] at hφ'; cases hφ'
      cases hst : Nat.beq r.st 0 with
      | false => rw [hst] at h; cases h
      | true =>
        rw [hst, cond_true] at h
        have hst0 := beqT hst
        cases hz : zipT r.ps.toList args r.T with
        | none => rw [hz] at h; simp [round1] at h
        | some T1 =>
          rw [hz] at h
          simp only [round1] at h
          obtain ⟨z1, z2, z3⟩ := zip_ok r.ps.toList args ws r.T T1 rec.tmps hz hargs hL.slots hL.psOk
          have htm : (rec.params.zip ws.toArray).foldl (fun tmps (t, a) => tmps.setIfInBounds t a) rec.tmps = (r.ps.toList.zip ws).foldl (fun tmps (p : Nat × Value) => tmps.setIfInBounds p.1 p.2) rec.tmps := by
            rw [hL.ps, ← Array.foldl_toList, Array.toList_zip]
          refine ⟨rec, hg, by rw [hL.ps, ← z1]; simp, ?_⟩
          rw [htm]
          generalize (r.ps.toList.zip ws).foldl (fun tmps (p : Nat × Value) => tmps.setIfInBounds p.1 p.2) rec.tmps = tmps at z2 z3
          cases hc1 : ih.code { E with rnd := true } r.asg T1 M with
          | none => rw [hc1] at h; simp [round2] at h
          | some x1 =>
            obtain ⟨x1, T2, M1⟩ := x1
            rw [hc1] at h
            simp only [round2] at h
            cases hn1 : isNormal x1 with
            | false => rw [hn1] at h; cases h
            | true =>
              rw [hn1, cond_true] at h
              obtain rfl : x1 = .normal := by cases x1 <;> simp_all [isNormal]
              cases hl1 : loopAt M1 i with
              | none => rw [hl1] at h; cases h
              | some r1 =>
                rw [hl1] at h
                simp only [] at h
                cases hst1 : Nat.beq r1.st 0 with
                | false => rw [hst1] at h; cases h
                | true =>
                  rw [hst1, cond_true] at h
                  have hst1' := beqT hst1
                  cases hc2 : ih.code { E with rnd := true } r.body T2 (M1.put i (.loop { r1 with st := 1 })) with
                  | none => rw [hc2] at h; simp [round3] at h
                  | some x2 =>
                    obtain ⟨x2, T3, M3⟩ := x2
                    rw [hc2] at h
                    simp only [round3] at h
                    cases hl2 : loopAt M3 i with
                    | none => rw [hl2] at h; cases h
                    | some r2 =>
                      rw [hl2] at h
                      simp only [Option.some.injEq, Prod.mk.injEq] at h
                      obtain ⟨rfl, rfl⟩ := h
                      have hF' := hF.inRound g
                      rw [hL.asg, hL.body]
                      refine roundIn_of_wpIn (hF.fn _) ?_
                      refine ((hK _ _ _ _ _ _ _ hc1 (F.inRound g) φ w0 w0.heap.size { tmps := tmps, defers := [] } w _ hF' (by simp only [z3]; rw [← hL.asg] at *; exact hL.asg ▸ hL.asgOk) ?_ ?_).1)
                      · exact ⟨hro, hI, hfree, z2, ⟨Nat.le_refl _, hI.below.size, [], rfl, List.nodup_nil, by simp⟩⟩
                      · rintro e a1 w1 ⟨rfl, ⟨φ1, f1, f2, f3⟩, f4, f5, f6⟩
                        simp only [exOf, Exit.then]
                        have hI1 : Inv φ1 w0 (heapOf E M1) w1 := f3.inv
                        obtain ⟨hH1, hin1, g1, rec1, hφ1, hB1, hg1, hL1⟩ := loop_at hI1 hl1
                        have hφ1' := f1 _ _ hφ
                        rw [hφ1'] at hφ1; cases hφ1
                        refine ⟨_, run_beginRound hg1 (by rw [hL1.st, hst1']; rfl), ?_⟩
                        obtain ⟨p1, p2⟩ := loop_put (r2 := { r1 with st := 1 }) (rec2 := { rec1 with state := .busy }) hI1 hH1 hφ1' hg1 hB1 { hL1 with st := rfl }
                        have hp : heapOf E (M1.put i (.loop { r1 with st := 1 })) = (heapOf E M1).upd (E.m0 + i) (.loop { r1 with st := 1 }) := heapOf_put E M1 i _ hin1
                        refine (hK _ _ _ _ _ _ _ hc2 (F.inRound g) φ1 w0 w0.heap.size a1 _ _ hF' (by rw [f4]; simp only [z3]; exact hL.body ▸ hL.bodyOk) ?_ ?_).1
                        · exact ⟨f3.ro, (by show Inv φ1 w0 (heapOf E _) _; rw [hp]; exact p1), f3.free, f3.tr, f3.dfr.keep p2⟩
                        · rintro e2 a2 w2 ⟨rfl, ⟨φ2, q1, q2, q3⟩, q4, q5, q6⟩
                          have hI2 : Inv φ2 w0 (heapOf E M3) w2 := q3.inv
                          obtain ⟨hH2, hin2, g2, rec2, hφ2, hB2, hg2, hL2⟩ := loop_at hI2 hl2
                          have hφ2' := q1 _ _ hφ1'
                          rw [hφ2'] at hφ2; cases hφ2
                          have hend : ∀ jump, jump = exJump x2 → ∃ vC w', (Instr.endRound g jump).run P w2 = .ok vC w' ∧ R (.returned vC) w' := by
                            intro jump hj
                            refine ⟨_, _, run_endRound jump hg2, ?_⟩
                            have hjn : jump.isNone = isNormal x2 := by subst hj; cases x2 <;> rfl
                            obtain ⟨s1, s2⟩ := loop_put (r2 := { r2 with st := bif isNormal x2 then 0 else 2, jump := exJump x2 }) (rec2 := { rec2 with state := if jump.isNone then .ready else .done, pending := jump }) hI2 hH2 hφ2' hg2 hB2
                              { hL2 with st := by simp only [hjn]; cases isNormal x2 <;> rfl, jump := hj }
                            refine hR _ _ ⟨φ2, by simp [VR, hjn], f1.trans q1, ?_, ?_, ?_, f6.trans (p2.trans (q6.trans s2))⟩
                            · refine NewIn.trans f2 q2 ?_ ?_
                              · simp only; omega
                              · have : M1.n ≤ M3.n := q5
                                show E.m0 + M1.n ≤ E.m0 + M3.n
                                omega
                            · rw [heapOf_put E M3 i _ hin2]; exact s1
                            · have h1 : M1.n ≤ M3.n := q5
                              show M.n ≤ M3.n
                              omega
                          cases x2 with
                          | normal => exact hend none rfl
                          | ret => exact hend (some .ret) rfl
                          | exit id => exact hend (some (.exit id)) rfl

theorem Good.value {nx : Next} {w' : World} {W : List Nat} (h : Good w w0 φ H E M (.ok nx w') v M' W) : (∃ vC, nx = .value vC ∧ Good w w0 φ H E M (.ok (.value vC) w') v M' W) ∨ (nx = .skip ∧ Good w w0 φ H E M (.ok (.value undef) w') v M' W) := by
  obtain ⟨nx', vC, w2, φ', ups, g1, g2, g3⟩ := h
  cases g1
  rcases g2 with rfl | ⟨rfl, rfl⟩
  · exact .inl ⟨vC, rfl, _, vC, w', φ', ups, rfl, .inl rfl, g3⟩
  · exact .inr ⟨rfl, _, undef, w', φ', ups, rfl, .inl rfl, g3⟩
theorem tchP_notall (f : Nat → Tch) (hf : ∀ b, f b ≠ .all) (x : Option AV) : tchP f x ≠ .all := by
  unfold tchP; split
  · exact hf _
  · simp
theorem tchApp_notall (x : Option (List AV)) : tchApp x ≠ .all := by unfold tchApp; split <;> simp
theorem tchClear_notall (x : Option (List AV)) : tchClear x ≠ .all := by unfold tchClear; split <;> simp
theorem touch_notall {T : Tbl AV} {op : Op} (h : ∀ c f, op = .call c → c.callee ≠ .value f) : touch tab T op ≠ .all := by
  unfold touch
  split
  · exact tchP_notall _ (by simp) _
  · exact tchP_notall _ (by simp) _
  · rename_i c
    unfold tchC
    split
    · rename_i f hf; exact absurd hf (h c f rfl)
    · exact tchApp_notall _
    · exact tchClear_notall _
    · simp
  all_goals simp
theorem dop_some_op {T : Tbl AV} {op : Op} {r : AV × Mem} (h : dop tab.ty E T M op = some r) : ∀ c, op ≠ .defer c := by
  intro c e; subst e; simp [dop] at h
theorem run_callFunc {f : Nat} {fn : Func} (hT : TabOK P tab) (hf : tab.fn f = some fn) (args : Array Value) : (callFunc f args).run P w = .ok (.enter f args) w := by
  obtain ⟨h1, h2, c, h3, _⟩ := hT.fn f fn hf
  simp only [callFunc, Sem.run_bind, run_program, Result.andThen_ok, h1, h2, h3]
  simp
theorem toArray_three (xs : List Value) (A : Array Value) (ys : List Value) : (⟨xs⟩ : Array Value) ++ A ++ (⟨ys⟩ : Array Value) = (xs ++ (A.toList ++ ys)).toArray := by apply Array.ext'; simp
theorem xop_ok (hT : TabOK P tab) {n : Nat} {ih : Ih} (hC : CallSpec P tab ih) (hK : CodeSpec P ih n) {F : Fence} (hF : FE E F) (hA : At P tab E w0 φ H w) {T : Tbl AV} {a : Act} (hTR : TR φ T a.tmps) {hid : Nat → Bool} {o : Oper}
    (h : xop tab ih E hid T M o.op = some (v, M')) (hs : ∀ b ∈ tchR (touch tab T o.op), Seen E M H b) (hvis : touch tab T o.op = .cal → ∀ b, hid b = false → b < E.m0 + M.n → Seen E M H b)
    (hfree : ∀ k, E.m0 + M.n ≤ k → k < E.m0 + M'.n → φ k = none) (hbig : Free φ (E.m0 + M.n + tab.big)) (hall : touch tab T o.op = .all → H = heapOf E M ∧ Free φ (E.m0 + M.n))
    {next : Act → World → Prop} {Q : Exit → Act → World → Prop} (hn1 : touch tab T o.op ≠ .all → ∀ vC w', Good w w0 φ H E M (.ok (.value vC) w') v M' (tchW (touch tab T o.op)) → next (a.put o.dst vC) w')
    (hn2 : touch tab T o.op = .all → ∀ vC w', Whole w w0 φ E M v M' vC w' → next (a.put o.dst vC) w') : o.wpIn F 0 P a w next Q := by
  refine ⟨fun f _ => hF.fn f, ?_⟩
  by_cases hcall : ∃ c f, o.op = .call c ∧ c.callee = .value f
  · obtain ⟨c, f, hop, hcc⟩ := hcall
    rw [Oper.semAt_eq _ _ _ (by rw [hop]; simp)]
    rw [hop] at h
    simp only [xop, callOp, hcc] at h
    have hexec : execOp a.eval o = (do let d ← resolve a.eval c o.type; invoke d.target d.args : Sem Next) := by unfold execOp; simp only [hop]
    rw [hexec]
    have htch : touch tab T o.op = tchCall tab (opd T f) := by rw [hop]; simp only [touch, tchC, hcc]
    cases hav : opds T c.args.toList with
    | none => rw [hav] at h; simp [callV?] at h
    | some avs => cases hfv : opd T f with
      | none => rw [hav, hfv] at h; simp [callV?] at h
      | some fv =>
        rw [hav, hfv] at h
        simp only [callV?] at h
        have hargs := opds_ok hTR _ _ hav
        have hfR := (opd_ok hTR f).get hfv
        rw [hfv] at htch
        cases fv <;> simp only [callV] at h <;> first | (cases h; done) | skip
        case func g fs caps =>
          simp only [VR] at hfR
          obtain ⟨xs, ys, he, hxs, hys⟩ := hfR
          have hvs := hxs.append (hargs.append hys)
          simp only [tchCall] at htch
          have hfin : ∀ {R : Ending → World → Prop}, (∃ fn, tab.fn g = some fn) → CallsIn Fence.wide 0 P g (xs ++ (c.args.toList.map a.eval ++ ys)).toArray w R → (∀ e w', R e w' → ∃ vC, e = .returned vC ∧ next (a.put o.dst vC) w') →
              o.uponIn F 0 P a next Q ((do let d ← resolve a.eval c o.type; invoke d.target d.args : Sem Next).run P w) := by
            intro R hfn hcs hRn
            obtain ⟨fn, hfn⟩ := hfn
            have hrun : (do let d ← resolve a.eval c o.type; invoke d.target d.args : Sem Next).run P w = .ok (.enter g (xs ++ (c.args.toList.map a.eval ++ ys)).toArray) w := by
              simp only [resolve, hcc, he, Deferred.ofValue, Sem.run_bind, Sem.run_pure, Result.andThen_ok, invoke]
              rw [run_callFunc hT hfn, toArray_three, Array.toList_map]
            rw [hrun, Oper.uponIn_enter]
            refine ⟨hF.depth, hF.calls (hcs.mono ?_)⟩
            intro e w' hR
            obtain ⟨vC, rfl, hn⟩ := hRn e w' hR
            exact hn
          cases hsh : tab.shares g with
          | true =>
            rw [hsh, cond_true] at h htch
            obtain ⟨rfl, hfr⟩ := hall htch
            obtain ⟨hfn, hcs⟩ := hC _ _ _ _ _ _ h rfl
            refine hfin hfn (hcs φ w0 w _ hA.ro hA.inv hvs hfr) ?_
            rintro e w' ⟨vC, rfl, hw⟩
            exact ⟨vC, rfl, hn2 htch vC w' hw⟩
          | false =>
            rw [hsh, cond_false] at h htch
            obtain ⟨hfn, hcs⟩ := pcall_ok hC hA h hvs (hvis htch) hfree hbig (W := tchW (touch tab T o.op))
            refine hfin hfn hcs ?_
            rintro e w' ⟨vC, rfl, hg⟩
            exact ⟨vC, rfl, hn1 (by rw [htch]; simp) vC w' hg⟩
        case yld l =>
          simp only [VR] at hfR
          obtain ⟨g, hφ, he⟩ := hfR
          simp only [tchCall] at htch
          obtain ⟨rfl, hfr⟩ := hall htch
          obtain ⟨rec, r1, r2, r3⟩ := yield_ok (R := fun
            | .returned v, w'' => next (a.put o.dst v) w''
            | .panicked chain, w'' => Q (.panic chain) a w''
            | .outgrown, _ => LetsOut Q) hK hF hA.ro hA.inv hfr h hargs hφ (fun vC w' hw => hn2 htch vC w' hw)
          have hrun : (do let d ← resolve a.eval c o.type; invoke d.target d.args : Sem Next).run P w =
              .ok (.round g rec.fn ((rec.params.zip (c.args.toList.map a.eval).toArray).foldl (fun tmps (t, a) => tmps.setIfInBounds t a) rec.tmps) rec.assign rec.body) w := by
            simp only [resolve, hcc, he, Deferred.ofValue, Sem.run_bind, Sem.run_pure, Result.andThen_ok, invoke]
            have e : (#[] ++ c.args.map a.eval : Array Value) = (c.args.toList.map a.eval).toArray := by apply Array.ext'; simp
            rw [e, run_yield r1 (by rw [← r2]; simp)]
          rw [hrun, Oper.uponIn_round]
          exact ⟨hF.depth, r3⟩
  · have hnc : ∀ c f, o.op = .call c → c.callee ≠ .value f := fun c f h1 h2 => hcall ⟨c, f, h1, h2⟩
    have hd : dop tab.ty E T M o.op = some (v, M') := by
      cases hop : o.op <;> rw [hop] at h <;> first | exact h | skip
      rename_i c
      simp only [xop, callOp] at h
      simp only [dop, dCallB]
      cases hcc : c.callee with
      | value f => exact absurd hcc (hnc c f hop)
      | invoke r nm => rw [hcc] at h; cases h
      | builtin b => rw [hcc] at h; exact h
    rw [Oper.semAt_eq _ _ _ (dop_some_op hd)]
    have hg := dop_ok hA (fun hlt => hfree _ (Nat.le_refl _) (by omega)) hTR hd hs hnc
    have hna := touch_notall (tab := tab) (T := T) hnc
    obtain ⟨nx, vC, w', φ', ups, g1, grest⟩ := hg
    rw [g1]
    have hg2 : Good w w0 φ H E M (.ok nx w') v M' (tchW (touch tab T o.op)) := ⟨nx, vC, w', φ', ups, rfl, grest⟩
    rcases hg2.value with ⟨vC, rfl, hg3⟩ | ⟨rfl, hg3⟩
    · exact hn1 hna vC w' hg3
    · exact hn1 hna undef w' hg3
end
end Go.Sx
/- S, text F: regions in the text's order; code; functions. -/
namespace Go.Sx
open Go.RowKit
section
variable {P : Program} {tab : Tab} {E : Env} {w0 : World} {φ : Phi} {H : Heap} {w : World} {M M' : Mem} {v : AV}

theorem VR.bool_iff {a : AV} {x : Value} (h : VR φ a x) (b : Bool) : x = .bool b ↔ a = .bool b := by
  cases a <;> simp only [VR] at h
  case int => subst h; simp
  case bool => subst h; simp
  case str => subst h; simp
  case ptr => obtain ⟨_, _, _, _, rfl⟩ := h; simp
  case nilp => subst h; simp
  case slice => obtain ⟨_, _, _, _, _, rfl, _⟩ := h; simp
  case nils => subst h; simp
  case emp => obtain ⟨_, _, rfl, _⟩ := h; simp
  case func => obtain ⟨_, _, rfl, _⟩ := h; simp
  case yld => obtain ⟨_, _, rfl⟩ := h; simp
  case nilf => subst h; simp
  case agg => obtain ⟨_, rfl, _⟩ := h; simp
  case tup => obtain ⟨_, rfl, _⟩ := h; simp
  case undef => subst h; simp [undef]
theorem dstOf_get : ∀ (l : List Oper) (j : Nat), dstOf l j = (l[j]?).bind (·.dst)
  | [], j => by simp [dstOf]
  | o :: l, 0 => by simp [dstOf]
  | o :: l, j + 1 => by simp only [dstOf, List.getElem?_cons_succ, dstOf_get l j]
theorem wanted_ok {T : Tbl AV} {tmps : Array Value} (hTR : TR φ T tmps) (ops : Array Oper) (o : Oper) : Region.wanted o (yielded ops tmps) = wantedA ops.toList T o.guard := by
  unfold Region.wanted wantedA
  cases o.guard with
  | none => rfl
  | some g =>
    obtain ⟨j, want⟩ := g
    simp only [yielded, dstOf_get, Array.getElem?_toList]
    cases hd : (ops[j]?).bind (·.dst) with
    | none => cases want <;> simp [wantT]
    | some t =>
      simp only [Option.bind_some, wantT]
      have hv := hTR.at_ t
      have hb := hv.bool_iff
      have hget : tmps.getD t undef = match tmps[t]? with | some x => x | none => undef := by
        cases h : tmps[t]? <;> simp [Array.getD_eq_getD_getElem?, h]
      rw [hget] at hb
      cases ht : tmps[t]? with
      | none =>
        rw [ht] at hb
        have h1 := hb true
        have h2 := hb false
        cases hT : orUndef (T.get t) <;> rw [hT] at h1 h2 <;> try (cases want <;> rfl)
        rename_i b; cases b <;> simp [undef] at h1 h2
      | some x =>
        rw [ht] at hb
        have h1 := hb true
        have h2 := hb false
        simp only [] at h1 h2
        cases hT : orUndef (T.get t) with
        | bool b =>
          have : x = .bool b := (hb b).2 hT
          subst this
          cases b <;> cases want <;> rfl
        | _ =>
          rw [hT] at h1 h2
          cases x <;> simp at h1 h2 <;> first | (cases want <;> rfl) | (rename_i b; cases b <;> simp at h1 h2)

theorem put_size (a : Act) (d : Option Tmp) (x : Value) : (a.put d x).tmps.size = a.tmps.size := by cases d <;> simp [Act.put]
theorem put_defers (a : Act) (d : Option Tmp) (x : Value) : (a.put d x).defers = a.defers := by cases d <;> rfl
theorem TR.put {T : Tbl AV} {a : Act} (h : TR φ T a.tmps) {o : Oper} (hd : dstLt a.tmps.size o = true) {u : AV} {x : Value} (hv : VR φ u x) : TR φ (putT T u o.dst) (a.put o.dst x).tmps := by
  unfold dstLt at hd
  cases hdst : o.dst with
  | none => exact h
  | some t => rw [hdst] at hd; exact h.set (bltT hd) hv
theorem St.step {T : Tbl AV} {dlo : Nat} {a : Act} (h : St E φ w0 M T dlo a w) {vC : Value} {w' : World} {φ' : Phi} (h1 : VR φ' v vC) (h2 : φ.Le φ') (h3 : NewIn φ φ' (E.m0 + M.n) (E.m0 + M'.n)) (h4 : Inv φ' w0 (heapOf E M') w') (h5 : M.n ≤ M'.n) (h6 : KW w w') {o : Oper} (hd : dstLt a.tmps.size o = true) :
    St E φ' w0 M' (putT T v o.dst) dlo (a.put o.dst vC) w' :=
  ⟨h.ro.mono h2, h4, h.free.new h3 (by omega), (h.tr.mono h2).put hd h1, by rw [put_defers]; exact h.dfr.keep h6⟩
theorem KPost.after {dlo : Nat} {a a1 a' : Act} {w1 w' : World} {φ1 : Phi} {M1 : Mem} {x : Ex} {T' : Tbl AV} {e : Exit} (hle : φ.Le φ1) (hn : NewIn φ φ1 (E.m0 + M.n) (E.m0 + M1.n)) (hM : M.n ≤ M1.n) (hkw : KW w w1) (hsz : a1.tmps.size = a.tmps.size)
    (k : KPost E φ1 w0 M1 dlo a1 w1 x T' M' e a' w') : KPost E φ w0 M dlo a w x T' M' e a' w' := by
  obtain ⟨k1, ⟨φ', k2, k3, k4⟩, k5, k6, k7⟩ := k
  exact ⟨k1, ⟨φ', hle.trans k2, hn.trans k3 (by omega) (by omega), k4⟩, k5.trans hsz, Nat.le_trans hM k6, hkw.trans k7⟩
theorem KPost.here {T : Tbl AV} {dlo : Nat} {a : Act} (h : St E φ w0 M T dlo a w) (x : Ex) : KPost E φ w0 M dlo a w x T M (exOf x) a w :=
  ⟨rfl, ⟨φ, Phi.Le.refl φ, fun k hk => absurd rfl hk, h⟩, rfl, Nat.le_refl _, KW.refl w⟩
theorem St.at_ (hT : TabOK P tab) {T : Tbl AV} {dlo : Nat} {a : Act} (h : St E φ w0 M T dlo a w) : At P tab E w0 φ (heapOf E M) w := ⟨hT.ty, h.ro, h.inv⟩

/-! ### A region in the text's order -/
theorem ops_ok (hT : TabOK P tab) {n : Nat} {ih : Ih} (hC : CallSpec P tab ih) (hK : CodeSpec P ih n) {F : Fence} (hF : FE E F) {ops : Array Oper} {Q : Exit → Act → World → Prop} {dlo : Nat} {T' : Tbl AV} {M' : Mem} :
    ∀ (l : List Oper) (k : Nat), ops.toList.drop k = l → ∀ (φ : Phi) (T : Tbl AV) (M : Mem) (a : Act) (w : World), opsRun tab ih E ops.toList l T M = some (T', M') → St E φ w0 M T dlo a w → l.all (dstLt a.tmps.size) = true →
      (∀ a' w', KPost E φ w0 M dlo a w .normal T' M' .normal a' w' → Q .normal a' w') → wpOpsIn F 0 P ops Q (List.range' k l.length) a w
  | [], k, _, φ, T, M, a, w, h, hS, _, hQ => by
    simp only [opsRun, Option.some.injEq, Prod.mk.injEq] at h
    obtain ⟨rfl, rfl⟩ := h
    simp only [List.length_nil, List.range'_zero, wpOpsIn]
    exact hQ _ _ (KPost.here hS .normal)
  | o :: l, k, hdrop, φ, T, M, a, w, h, hS, hok, hQ => by
    have hk : ops[k]? = some o := by
      rw [← Array.getElem?_toList]
      have := congrArg (·[0]?) hdrop
      simpa using this
    have hdrop' : ops.toList.drop (k + 1) = l := by
      have := congrArg List.tail hdrop
      simpa using this
    simp only [List.all_cons, Bool.and_eq_true] at hok
    obtain ⟨hok1, hok2⟩ := hok
    simp only [List.length_cons, List.range'_succ, wpOpsIn, hk]
    rw [wanted_ok hS.tr]
    simp only [opsRun] at h
    cases hw : wantedA ops.toList T o.guard with
    | false =>
      rw [hw, cond_false] at h
      simp only [Bool.false_eq_true, if_false]
      refine ⟨fun f _ => hF.fn f, ?_⟩
      have hS' : St E φ w0 M (putT T .undef o.dst) dlo (a.put o.dst undef) w := ⟨hS.ro, hS.inv, hS.free, hS.tr.put hok1 (by simp [VR]), by rw [put_defers]; exact hS.dfr⟩
      refine ops_ok hT hC hK hF l (k + 1) hdrop' φ _ M _ w h hS' (by rw [put_size]; exact hok2) (fun a' w' hk => hQ a' w' ?_)
      exact hk.after (Phi.Le.refl φ) (fun k hk => absurd rfl hk) (Nat.le_refl _) (KW.refl w) (put_size _ _ _)
    | true =>
      rw [hw, cond_true] at h
      simp only [if_true]
      cases hx : xop tab ih E noneHid T M o.op with
      | none => rw [hx] at h; simp [opsNext] at h
      | some r =>
        obtain ⟨v, M1⟩ := r
        rw [hx] at h
        simp only [opsNext] at h
        have hnext : ∀ vC w1, Whole w w0 φ E M v M1 vC w1 → wpOpsIn F 0 P ops Q (List.range' (k + 1) l.length) (a.put o.dst vC) w1 := by
          rintro vC w1 ⟨φ1, g1, g2, g3, g4, g5, g6⟩
          refine ops_ok hT hC hK hF l (k + 1) hdrop' φ1 _ M1 _ w1 h (hS.step g1 g2 g3 g4 g5 g6 hok1) (by rw [put_size]; exact hok2) (fun a' w' hk => hQ a' w' ?_)
          exact hk.after g2 g3 g5 g6 (put_size _ _ _)
        exact xop_ok hT hC hK hF (hS.at_ hT) hS.tr hx (fun b _ _ => rfl) (fun _ b _ _ _ => rfl) (fun k hk _ => hS.free k hk) (fun k hk => hS.free k (by omega)) (fun _ => ⟨rfl, hS.free⟩)
          (fun _ vC w1 hg => hnext vC w1 hg.whole) (fun _ vC w1 hg => hnext vC w1 hg)
end
end Go.Sx
