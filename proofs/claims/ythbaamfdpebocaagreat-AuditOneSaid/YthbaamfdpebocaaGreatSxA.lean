import Derived.OrdersHeld
import Derived.Below
import Derived.Laws.Sem
import Derived.Laws.Tables
import Derived.Laws.AppendOwn
namespace Go.Sx
open Go

structure Out (Pl : Type) where
  i : Nat → Int
  b : Nat → Bool
  n : Nat → Nat
  s : Nat → Option Addr × Nat × Nat
  p : Nat → Pl

abbrev Env := Out

def Out.put {Pl : Type} (ρ : Env Pl) (t : Nat) (o : Out Pl) : Env Pl where
  i x := if t ≤ x then o.i (x - t) else ρ.i x
  b x := if t ≤ x then o.b (x - t) else ρ.b x
  n x := if t ≤ x then o.n (x - t) else ρ.n x
  s x := if t ≤ x then o.s (x - t) else ρ.s x
  p x := if t ≤ x then o.p (x - t) else ρ.p x

inductive IE where
  | lit (n : Int) | var (x : Nat) | len (x : Nat)
  | wrap (k : IntKind) (a : IE) | add (a b : IE) | sub (a b : IE) | mul (a b : IE) | quo (a b : IE) | rem (a b : IE) | mn (a b : IE) | mx (a b : IE)
  | shl (k : IntKind) (a b : IE) | shr (a : IE) (n : Nat) | bits (op : Nat) (k : IntKind) (a b : IE)
  deriving DecidableEq, Repr

inductive BE where
  | lit (b : Bool) | var (x : Nat) | not (a : BE) | eq (a b : IE) | lt (a b : IE) | le (a b : IE) | and (a b : BE) | beq (a b : BE) | sm (x : Nat)
  deriving DecidableEq, Repr

inductive SV where
  | bool (b : BE) | int (k : IntKind) (e : IE) | ptr (x off : Nat) | nilptr | slc (x : Nat) | nilslc | row (x off n c : Nat)
  | func (fn : Fn) (first captured : List SV) | nilFunc | iface (t : Nat) (v : SV) | nilIface
  | agg (cs : List SV) | tup (cs : List SV) | elem (x : Nat) (e : IE) (size : Nat)
  | mptr (b : BE) (x : Nat)     -- nil, if so; a pointer otherwise
  deriving Inhabited

/-- a block of one's own. -/
structure Blk where
  x : Nat
  T : Nat
  cs : List SV

/-- something that is held of memory. -/
structure Res where
  tag : Nat
  p : Nat
  key : SV
  own : Bool

structure St where
  fn : Nat
  nt : Nat
  ctr : Nat
  tmps : List (Nat × SV)
  heap : List Blk
  res : List Res
  asm : List (BE × Bool)

/-- what may be called: functions; what is done with rows. -/
inductive Fk where
  | fn (f : Nat)
  | ld (T s : Nat) | st (T s : Nat) | bs (T s n : Nat) | mk (t : Nat) | sl (t : Nat) (lo hi : Bool) | app (t u : Nat) | nilr (T s : Nat)
  deriving DecidableEq

/-- an atom of an outcome. -/
inductive At where
  | int (k : IntKind) (j : Nat) | bool (j : Nat) | ptr (j : Nat) | slc (j : Nat) | nilptr | mptr (jb j : Nat)
def At.sv (t : Nat) : At → SV
  | .int k j => .int k (.var (t + j))
  | .bool j => .bool (.var (t + j))
  | .ptr j => .ptr (t + j) 0
  | .slc j => .slc (t + j)
  | .nilptr => .nilptr
  | .mptr jb j => .mptr (.var (t + jb)) (t + j)
/-- what hangs on a cell: which one, of what kind, its payload, one's own? -/
abbrev SubX := Nat × Nat × Nat × Bool

/-! constants as symbols -/
mutual
def SV.ofV : Nat → Value → Option SV
  | 0, _ => none
  | m + 1, v => match v with
    | .bool b => some (.bool (.lit b))
    | .int k n => some (.int k (.lit n))
    | .pointer none => some .nilptr
    | .slice none 0 0 => some .nilslc
    | .nilFunc => some .nilFunc
    | .nilIface => some .nilIface
    | .agg cs => (SV.ofVs m cs.toList).map .agg
    | .tuple cs => (SV.ofVs m cs.toList).map .tup
    | _ => none
def SV.ofVs : Nat → List Value → Option (List SV)
  | 0, _ => none
  | _ + 1, [] => some []
  | m + 1, v :: vs => match SV.ofV m v, SV.ofVs m vs with
    | some x, some xs => some (x :: xs)
    | _, _ => none
end

def look {α : Type} : List (Nat × α) → Nat → Option α
  | [], _ => none
  | (k, v) :: l, x => if k = x then some v else look l x

def findBlk : List Blk → Nat → Option Blk
  | [], _ => none
  | b :: l, x => if b.x = x then some b else findBlk l x

def setBlk : List Blk → Nat → List SV → List Blk
  | [], _, _ => []
  | b :: l, x, cs => if b.x = x then { b with cs := cs } :: l else b :: setBlk l x cs

def asmLook : List (BE × Bool) → BE → Option Bool
  | [], _ => none
  | (c, v) :: l, b => if c = b then some v else asmLook l b

/-- what is known of an int that is another one. -/
def eqLook : List (BE × Bool) → IE → Int → Option Bool
  | [], _, _ => none
  | (c, v) :: l, e, y => match c, v with
    | .eq a (.lit x), true => if a = e then some (x == y) else eqLook l e y
    | _, _ => eqLook l e y
/-- what is known of a test. -/
def BE.known (asm : List (BE × Bool)) : BE → Option Bool
  | .lit b => some b
  | .eq (.lit x) (.lit y) => some (x == y)
  | .eq a (.lit y) => match asmLook asm (.eq a (.lit y)) with
    | some v => some v
    | none => eqLook asm a y
  | .lt (.lit x) (.lit y) => some (decide (x < y))
  | .le (.lit x) (.lit y) => some (decide (x ≤ y))
  | .not a => match BE.known asm a with
    | some v => some (!v)
    | none => asmLook asm (.not a)
  | b => asmLook asm b

/-- a pointer of which it is known. -/
def SV.norm (asm : List (BE × Bool)) : SV → SV
  | .mptr b x => match b.known asm with
    | some true => .nilptr
    | some false => .ptr x 0
    | none => .mptr b x
  | v => v

def St.ev (st : St) : Operand → Option SV
  | .tmp t => match look st.tmps t with
    | some v => some (v.norm st.asm)
    | none => none
  | .const v => SV.ofV 50 v
  | .global _ => none
  | .func f => some (.func (.func f) [] [])

def St.evs (st : St) : List Operand → Option (List SV)
  | [] => some []
  | x :: xs => match st.ev x, st.evs xs with
    | some v, some vs => some (v :: vs)
    | _, _ => none

def St.put (st : St) (d : Option Nat) (v : SV) : St :=
  match d with
  | some t => if t < st.nt then { st with tmps := (t, v) :: st.tmps } else st
  | none => st

/-! integers -/
def IE.mk1 (k : IntKind) : IE → IE
  | .lit n => .lit (k.wrap n)
  | e => .wrap k e
def IE.mk2 (f : Int → Int → Int) (g : IE → IE → IE) (a b : IE) : IE :=
  match a, b with
  | .lit x, .lit y => .lit (f x y)
  | a, b => g a b

def BE.mk (asm : List (BE × Bool)) (b : BE) : BE :=
  match b.known asm with
  | some v => .lit v
  | none => b

inductive Eff where
  | fail (s : String)
  | val (needs : List BE) (v : SV)
  | mem (h : List Blk)
  | new (T : Nat) (cs : List SV)
  | call (f : Fk) (args : List SV)
  | split (b : BE)

def cmpOp (asm : List (BE × Bool)) (op : BinOp) (a b : IE) : Option SV :=
  match op with
  | .eql => some (.bool (BE.mk asm (.eq a b)))
  | .neq => some (.bool (BE.mk asm (.not (.eq a b))))
  | .lss => some (.bool (BE.mk asm (.lt a b)))
  | .leq => some (.bool (BE.mk asm (.le a b)))
  | .gtr => some (.bool (BE.mk asm (.lt b a)))
  | .geq => some (.bool (BE.mk asm (.le b a)))
  | _ => none

/-- a shift by so much. -/
def shiftX (op : BinOp) (k : IntKind) (a : IE) : IE → Option (List BE × SV)
  | .lit n => if 0 ≤ n then (match op with
    | .shl => some ([], .int k (.shl k a (.lit n)))
    | .shr => some ([], .int k (.shr a (min n.toNat k.bits)))
    | _ => none) else none
  | _ => none
/-- a divisor that is not 0. -/
def divX : IE → Option (List BE)
  | .lit n => if n = 0 then none else some []
  | b => some [.not (.eq b (.lit 0))]

def noNeed : Option SV → Option (List BE × SV)
  | some v => some ([], v)
  | none => none

def intOp (asm : List (BE × Bool)) (op : BinOp) (k : IntKind) (a b : IE) : Option (List BE × SV) :=
  match op with
  | .add => some ([], .int k (IE.mk1 k (IE.mk2 (· + ·) .add a b)))
  | .sub => some ([], .int k (IE.mk1 k (IE.mk2 (· - ·) .sub a b)))
  | .mul => some ([], .int k (IE.mk1 k (IE.mk2 (· * ·) .mul a b)))
  | .quo => match divX b with
    | some c => some (c, .int k (IE.mk1 k (IE.mk2 Int.tdiv .quo a b)))
    | none => none
  | .rem => match divX b with
    | some c => some (c, .int k (IE.mk2 Int.tmod .rem a b))
    | none => none
  | .shl | .shr => none
  | .and => some ([], .int k (.bits 0 k a b))
  | .or => some ([], .int k (.bits 1 k a b))
  | .xor => some ([], .int k (.bits 2 k a b))
  | .andNot => some ([], .int k (.bits 3 k a b))
  | op => noNeed (cmpOp asm op a b)

def eqB (op : BinOp) (b : Bool) : Option SV :=
  match op with
  | .eql => some (.bool (.lit b))
  | .neq => some (.bool (.lit (!b)))
  | _ => none

def isConstO : Operand → Bool
  | .const _ => true
  | _ => false

def binX (P : Program) (asm : List (BE × Bool)) (op : BinOp) (T : Nat) (cst : Bool) (x y : SV) : Option SV :=
  match x, y with
  | .bool a, .bool b => match P.underlying T, op with
    | some .bool, .eql => some (.bool (BE.mk asm (.beq a b)))
    | some .bool, .neq => some (.bool (BE.mk asm (.not (.beq a b))))
    | _, _ => none
  | .ptr _ _, .nilptr => match P.underlying T with
    | some (.pointer _) => eqB op false
    | _ => none
  | .nilptr, .nilptr => match P.underlying T with
    | some (.pointer _) => eqB op true
    | _ => none
  | .mptr b _, .nilptr => match P.underlying T, op with
    | some (.pointer _), .eql => some (.bool (BE.mk asm b))
    | some (.pointer _), .neq => some (.bool (BE.mk asm (.not b)))
    | _, _ => none
  | .iface _ _, .nilIface => match P.underlying T with
    | some (.interface _) => eqB op false
    | _ => none
  | .nilIface, .nilIface => match P.underlying T with
    | some (.interface _) => if cst then eqB op true else none
    | _ => none
  | .func _ _ _, .nilFunc => match P.underlying T with
    | some (.func _ _ _) => eqB op false
    | _ => none
  | .nilFunc, .nilFunc => match P.underlying T with
    | some (.func _ _ _) => eqB op true
    | _ => none
  | _, _ => none

def bin2 (P : Program) (asm : List (BE × Bool)) (op : BinOp) (T : Nat) (cst : Bool) (x y : SV) : Option (List BE × SV) :=
  match x, y with
  | .int k a, .int k' b => match op with
    | .shl | .shr => shiftX op k a b
    | op => if k = k' then intOp asm op k a b else none
  | x, y => noNeed (binX P asm op T cst x y)

def isAggB (P : Program) (t : Nat) : Option Bool :=
  match P.underlying t with
  | some (.struct _) => some true
  | some (.array _ _) => some true
  | some _ => some false
  | none => none

def sizeX (P : Program) (t : Nat) : Option Nat := (P.info? t).map (·.size)

def SV.cells : SV → List SV
  | .agg cs => cs
  | v => [v]

def cutX (l : List SV) (off n : Nat) : List SV := (l.drop off).take n

def putX : List SV → Nat → List SV → List SV
  | l, _, [] => l
  | [], _, _ => []
  | _ :: l, 0, v :: vs => v :: putX l 0 vs
  | x :: l, n + 1, vs => x :: putX l n vs

def partX (P : Program) (t : Nat) (cs : List SV) (off : Nat) : Option SV :=
  match isAggB P t, sizeX P t with
  | some true, some n => some (.agg (cutX cs off n))
  | some false, some _ => cs[off]?
  | _, _ => none

def loadX (P : Program) (st : St) (t : Nat) (a : SV) : Option SV :=
  match a with
  | .ptr x off => match findBlk st.heap x with
    | some b => match isAggB P t, sizeX P t with
      | some true, some n => if off + n ≤ b.cs.length then some (.agg (cutX b.cs off n)) else none
      | some false, some _ => b.cs[off]?
      | _, _ => none
    | none => none
  | _ => none

/-- the value of one cell. -/
def SV.flat : SV → Bool
  | .agg _ | .tup _ => false
  | _ => true

def storeX (P : Program) (st : St) (t : Nat) (a v : SV) : Option (List Blk) :=
  match a with
  | .ptr x off => match findBlk st.heap x with
    | some b => match sizeX P t with
      | some n => if v.cells.length = n ∧ off + n ≤ b.cs.length ∧ v.cells.all SV.flat = true then some (setBlk st.heap x (putX b.cs off v.cells)) else none
      | none => none
    | none => none
  | _ => none

def structX (P : Program) (t : Nat) : Option (Array Field) :=
  match P.underlying t with
  | some (.struct fs) => some fs
  | _ => none

def zeroX (P : Program) (t : Nat) : Option SV :=
  match P.info? t with
  | some i => match i.zero with
    | some v => SV.ofV 50 v
    | none => none
  | none => none

def evParts (st : St) : List (Nat × Operand) → Option (List (Nat × SV))
  | [] => some []
  | (i, x) :: l => match st.ev x, evParts st l with
    | some v, some vs => some ((i, v) :: vs)
    | _, _ => none

def fillX (places : List (Nat × Nat)) : List SV → List (Nat × SV) → Option (List SV)
  | cs, [] => some cs
  | cs, (i, v) :: l => match places[i]? with
    | some (off, n) => if v.cells.length = n ∧ off + n ≤ cs.length then fillX places (putX cs off v.cells) l else none
    | none => none

def placesX (P : Program) : List Field → Option (List (Nat × Nat))
  | [] => some []
  | f :: l => match sizeX P f.type, placesX P l with
    | some n, some ps => some ((f.offset, n) :: ps)
    | _, _ => none

def buildX (P : Program) (st : St) (t : Nat) (parts : Array (Nat × Operand)) : Option SV :=
  match structX P t, zeroX P t, evParts st parts.toList with
  | some fs, some z, some ps => match placesX P fs.toList with
    | some pl => (fillX pl z.cells ps).map .agg
    | none => none
  | _, _, _ => none

def methX (P : Program) (t : Nat) (name : String) : Option Nat :=
  match P.info? t with
  | some i => match i.methods.find? (·.name == name) with
    | some m => if m.path.isEmpty then match m.func, P.underlying t with
        | some (f, true), some (.pointer _) => some f
        | _, _ => none
      else none
    | none => none
  | none => none

def minX : List SV → Option SV
  | [.int k a, .int k' b] => if k = k' then some (.int k (IE.mk2 (fun x y => if y < x then y else x) .mn a b)) else none
  | _ => none
def maxX : List SV → Option SV
  | [.int k a, .int k' b] => if k = k' then some (.int k (IE.mk2 (fun x y => if x < y then y else x) .mx a b)) else none
  | _ => none

def optE (s : String) : Option SV → Eff
  | some v => .val [] v
  | none => .fail s
def optN (s : String) : Option (List BE × SV) → Eff
  | some (c, v) => .val c v
  | none => .fail s

def lenX (P : Program) (ts : Array Nat) (args : List SV) : Option SV :=
  match ts[0]? with
  | none => none
  | some t => match P.underlying t, args with
    | some (.slice _), [.slc x] => some (.int .i64 (.len x))
    | some (.slice _), [.nilslc] => some (.int .i64 (.lit 0))
    | some (.slice _), [.row _ _ n _] => some (.int .i64 (.lit (Int.ofNat n)))
    | some (.array n _), [_] => some (.int .i64 (.lit (Int.ofNat n)))
    | _, _ => none

/-- a function with a body, and no other. -/
def enterX (P : Program) (f : Nat) : Bool :=
  match P.funcs[f]? with
  | some fn => !(fn.name == "runtime.NumGoroutine") && fn.body.isSome
  | none => false

def callE (P : Program) (f : Nat) (args : List SV) : Eff := if enterX P f then .call (.fn f) args else .fail "not to be entered"

def callX (P : Program) (st : St) (c : Call) : Eff :=
  match st.evs c.args.toList with
  | none => .fail "args"
  | some args => match c.callee with
    | .value f => match st.ev f with
      | some (.func (.func g) first cap) => callE P g (first ++ args ++ cap)
      | _ => .fail "callee"
    | .invoke r name => match st.ev r with
      | some (.iface t v) => match methX P t name with
        | some g => callE P g (v :: args)
        | none => .fail "method"
      | _ => .fail "invoke"
    | .builtin b => match b with
      | .min => optE "min" (minX args)
      | .max => optE "max" (maxX args)
      | .len => optE "len" (lenX P c.argTypes args)
      | .append => match c.argTypes.toList, args with
        | [t, u], [_, _] => .call (.app t u) args
        | _, _ => .fail "append"
      | _ => .fail "builtin"

def opx (P : Program) (st : St) (o : Oper) : Eff :=
  match o.op with
  | .move x | .assign x => optE "move" (st.ev x)
  | .pick c a b => match st.ev c, st.ev a, st.ev b with
    | some (.bool c), some a, some b => match c.known st.asm with
      | some true => .val [] a
      | some false => .val [] b
      | none => .split c
    | _, _, _ => .fail "pick"
  | .alloc t => match zeroX P t with
    | some v => .new t v.cells
    | none => .fail "alloc"
  | .box t x => match st.ev x with
    | some v => .new t v.cells
    | none => .fail "box"
  | .build t parts => optE "build" (buildX P st t parts)
  | .load t a => match st.ev a with
    | some (.elem x e s) => .call (.ld t s) [.slc x, .int .i64 e]
    | some a => optE "load" (loadX P st t a)
    | none => .fail "load addr"
  | .store t a x => match st.ev a, st.ev x with
    | some (.elem x e s), some v => .call (.st t s) [.slc x, .int .i64 e, v]
    | some a, some v => match storeX P st t a v with
      | some h => .mem h
      | none => .fail "store"
    | _, _ => .fail "store operand"
  | .nilCheck x => match st.ev x with
    | some (.ptr x off) => .val [] (.ptr x off)
    | some (.mptr b x) => .val [.not b] (.ptr x 0)
    | some (.iface t v) => .val [] (.iface t v)
    | some (.func (.func f) a b) => .val [] (.func (.func f) a b)
    | _ => .fail "nilCheck"
  | .binOp op T x y _ => match st.ev x, st.ev y with
    | some a, some b => optN "binOp" (bin2 P st.asm op T (isConstO x || isConstO y) a b)
    | _, _ => .fail "binOp operand"
  | .unOp op _ x => match op, st.ev x with
    | .not, some (.bool b) => .val [] (.bool (BE.mk st.asm (.not b)))
    | .neg, some (.int k a) => .val [] (.int k (IE.mk1 k (IE.mk2 (· - ·) .sub (.lit 0) a)))
    | _, _ => .fail "unOp"
  | .convert src dst x => match P.underlying src, P.underlying dst, st.ev x with
    | some _, some (.int k), some (.int _ e) => .val [] (.int k (IE.mk1 k e))
    | _, _, _ => .fail "convert"
  | .makeInterface t x => match P.underlying t, st.ev x with
    | some (.interface _), _ => .fail "makeInterface"
    | some _, some v => .val [] (.iface t v)
    | _, _ => .fail "makeInterface"
  | .makeFunc fn first cap => match st.evs first.toList, st.evs cap.toList with
    | some a, some b => .val [] (.func fn a b)
    | _, _ => .fail "makeFunc"
  | .fieldAddr s x f => match structX P s, st.ev x with
    | some fs, some (.ptr b off) => match fs[f]? with
      | some fl => match sizeX P fl.type with
        | some n => if n = 0 then .fail "fieldAddr 0" else .val [] (.ptr b (off + fl.offset))
        | none => .fail "fieldAddr"
      | none => .fail "fieldAddr"
    | _, _ => .fail "fieldAddr"
  | .field s x f => match structX P s, st.ev x with
    | some fs, some (.agg cs) => match fs[f]? with
      | some fl => optE "field" (partX P fl.type cs fl.offset)
      | none => .fail "field"
    | _, _ => .fail "field"
  | .extract x i => match st.ev x with
    | some (.tup cs) => optE "extract" cs[i]?
    | _ => .fail "extract"
  | .indexAddr t x ix => match st.ev x, st.ev ix with
    | some (.slc x), some (.int _ e) => match P.underlying t with
      | some (.slice el) => match sizeX P el with
        | some n => .val [.le (.lit 0) e, .lt e (.len x), .sm x] (.elem x e n)
        | none => .fail "indexAddr size"
      | _ => .fail "indexAddr type"
    | some (.ptr b off), some (.int _ (.lit (.ofNat i))) => match P.underlying t with
      | some (.array len el) => match sizeX P el with
        | some n => if i < len then .val [] (.ptr b (off + i * n)) else .fail "indexAddr bound"
        | none => .fail "indexAddr size"
      | _ => .fail "indexAddr type"
    | _, _ => .fail "indexAddr"
  | .buildSlice t len parts => match P.underlying t with
    | some (.slice el) => match sizeX P el, zeroX P el, evParts st parts.toList with
      | some n, some z, some ps => if z.cells.length = n ∧ 0 < n ∧ len * n ≤ 4096 then (match fillX ((List.range len).map fun i => (i * n, n)) (List.replicate len z.cells).flatten ps with
        | some cs => .call (.bs el n len) cs
        | none => .fail "buildSlice fill") else .fail "buildSlice size"
      | _, _, _ => .fail "buildSlice parts"
    | _ => .fail "buildSlice type"
  | .makeSlice t l c => match st.ev l, st.ev c with
    | some a, some b => .call (.mk t) [a, b]
    | _, _ => .fail "makeSlice"
  | .slice t x lo hi mx => match mx, st.ev x, P.underlying t with
    | none, some v, some (.slice _) => match lo, hi with
      | none, none => .call (.sl t false false) [v]
      | some l, none => match st.ev l with
        | some a => .call (.sl t true false) [v, a]
        | none => .fail "slice"
      | none, some h => match st.ev h with
        | some b => .call (.sl t false true) [v, b]
        | none => .fail "slice"
      | some l, some h => match st.ev l, st.ev h with
        | some a, some b => .call (.sl t true true) [v, a, b]
        | _, _ => .fail "slice"
    | _, _, _ => .fail "slice"
  | .call c => callX P st c
  | _ => .fail "op"

end Go.Sx

namespace Go.Sx
open Go

inductive Rt where
  | one (a : At) | tup (l : List At) | agg (l : List At) | iface (T : Nat) (a : At)
def Rt.sv (t : Nat) : Rt → SV
  | .one a => a.sv t
  | .tup l => .tup (l.map (At.sv t))
  | .agg l => .agg (l.map (At.sv t))
  | .iface T a => .iface T (a.sv t)

/-- what is needed is read, turned, or used up. -/
inductive Md where
  | rd | tu | eat
  deriving DecidableEq

/-- what a contract says, as far as symbols go. -/
structure RowX where
  f : Fk
  needs : List (Nat × Nat × Md)          -- which argument, of what kind, what becomes of it
  ret : Rt
  news : List (Nat × Nat × At × Bool)    -- kind, which payload, where, one's own?
  width : Nat

mutual
def SV.beq : SV → SV → Bool
  | .bool a, .bool b => decide (a = b)
  | .int k a, .int l b => decide (k = l) && decide (a = b)
  | .ptr x o, .ptr y p => x == y && o == p
  | .nilptr, .nilptr => true
  | .slc x, .slc y => x == y
  | .nilslc, .nilslc => true
  | .row x o n c, .row y p m d => x == y && o == p && n == m && c == d
  | .func f a b, .func g c d => decide (f = g) && SV.beqs a c && SV.beqs b d
  | .nilFunc, .nilFunc => true
  | .iface t v, .iface u w => t == u && SV.beq v w
  | .nilIface, .nilIface => true
  | .agg a, .agg b => SV.beqs a b
  | .tup a, .tup b => SV.beqs a b
  | .elem x e s, .elem y f t => x == y && decide (e = f) && s == t
  | .mptr b x, .mptr c y => decide (b = c) && x == y
  | _, _ => false
def SV.beqs : List SV → List SV → Bool
  | [], [] => true
  | a :: l, b :: m => SV.beq a b && SV.beqs l m
  | _, _ => false
end

/-- which of what is held is it, and the others. -/
def pullRes : List Res → SV → Nat → Option (Res × List Res)
  | [], _, _ => none
  | r :: l, key, tag => if r.tag == tag && SV.beq r.key key then some (r, l) else match pullRes l key tag with
    | some (x, m) => some (x, r :: m)
    | none => none

/-- an argument; from 100 on a part of one. -/
def argX (args : List SV) (ai : Nat) : Option SV :=
  if ai < 100 then args[ai]? else match args[ai / 100 - 1]? with
    | some (.agg cs) => cs[ai % 100]?
    | _ => none
/-- the payloads that a contract needs; what it turns, behind it; what is left. -/
def needX (args : List SV) (t : Nat) : List (Nat × Nat × Md) → Nat → List Res → Option (List Nat × List Res × List Res)
  | [], _, rs => some ([], [], rs)
  | (ai, tag, up) :: l, j, rs => match argX args ai with
    | none => none
    | some key => match pullRes rs key tag with
      | none => none
      | some (r, rest) => if up = .rd then
          (if r.own then none else match needX args t l (j + 1) rs with
          | some (ps, us, rs') => some (r.p :: ps, us, rs')
          | none => none)
        else if r.own then (match needX args t l (j + 1) rest with
            | some (ps, us, rs') => some (r.p :: ps, if up = .tu then { r with p := t + j } :: us else us, rs')
            | none => none)
        else none

def newsX (t : Nat) : List (Nat × Nat × At × Bool) → List Res
  | [] => []
  | (tag, pj, key, own) :: l => { tag := tag, p := t + pj, key := key.sv t, own := own } :: newsX t l

def RowX.apply (row : RowX) (args : List SV) (st : St) : Option (List Nat × SV × St) :=
  match needX args st.ctr row.needs 0 st.res with
  | some (ps, us, rs) => some (ps, row.ret.sv st.ctr, { st with ctr := st.ctr + row.width, res := newsX st.ctr row.news ++ (us ++ rs) })
  | none => none

mutual
def SV.lo (t : Nat) : SV → Bool
  | .bool b => b.lo t
  | .int _ e => e.lo t
  | .ptr x _ => decide (x < t)
  | .slc x => decide (x < t)
  | .row x _ _ _ => decide (x < t)
  | .func _ a b => SV.los t a && SV.los t b
  | .iface _ v => SV.lo t v
  | .agg cs => SV.los t cs
  | .tup cs => SV.los t cs
  | .elem x e _ => decide (x < t) && e.lo t
  | .mptr b x => b.lo t && decide (x < t)
  | .nilptr | .nilslc | .nilFunc | .nilIface => true
def SV.los (t : Nat) : List SV → Bool
  | [] => true
  | v :: vs => SV.lo t v && SV.los t vs
def IE.lo (t : Nat) : IE → Bool
  | .lit _ => true
  | .var x | .len x => decide (x < t)
  | .wrap _ a => a.lo t
  | .add a b | .sub a b | .mul a b | .quo a b | .rem a b | .mn a b | .mx a b => a.lo t && b.lo t
  | .shl _ a b | .bits _ _ a b => a.lo t && b.lo t
  | .shr a _ => a.lo t
def BE.lo (t : Nat) : BE → Bool
  | .lit _ => true
  | .var x => decide (x < t)
  | .not a => a.lo t
  | .eq a b | .lt a b | .le a b => a.lo t && b.lo t
  | .and a b | .beq a b => a.lo t && b.lo t
  | .sm x => decide (x < t)
end

def St.lo (st : St) : Bool :=
  st.tmps.all (fun x => SV.lo st.ctr x.2) && st.heap.all (fun b => decide (b.x < st.ctr) && SV.los st.ctr b.cs) &&
  st.res.all (fun r => decide (r.p < st.ctr) && SV.lo st.ctr r.key) && st.asm.all (fun x => x.1.lo st.ctr)

inductive Ex where
  | normal | exit (id : Nat) | ret
  deriving DecidableEq

def enumT : Nat → List SV → List (Nat × SV)
  | _, [] => []
  | i, v :: l => (i, v) :: enumT (i + 1) l

def resX (P : Program) (st : St) : List ResultVar → Option (List SV)
  | [] => some []
  | r :: l => match (match r with
      | .tmp t => look st.tmps t
      | .cell a t => match look st.tmps a with
        | some a => loadX P st t a
        | none => none), resX P st l with
    | some v, some vs => some (v :: vs)
    | _, _ => none

def oneX : List SV → SV
  | [v] => v
  | vs => .tup vs

def isTake (o : Oper) : Bool := match o.op with
  | .move .. | .assign .. | .pick .. | .build .. | .nilCheck .. | .binOp .. | .unOp .. | .convert .. | .makeInterface .. | .makeFunc .. | .fieldAddr .. | .field .. | .extract .. | .indexAddr .. => true
  | .call c => match c.callee with
    | .builtin .min | .builtin .max | .builtin .len => true
    | _ => false
  | _ => false

/-- a loop: which slots, cells and payloads it turns. -/
structure LoopX where
  fn : Nat
  id : Nat
  tmps : List (Nat × At)
  cells : List (Nat × Nat × At)
  ps : List (Nat × Nat)         -- the place among what is held, which payload
  width : Nat
  keys : List (Nat × At) := []  -- the place among what is held, where it is from then on
  mats : List (Nat × Nat × Nat) := []   -- slots that may be nil rows ahead of it

/-- what is held, by its kind: rows, ints that are read, blocks. -/
inductive KindX where
  | row (T s : Nat)
  | ir (rt : Nat)
  | obj (T : Nat) (cells : List At) (subs : List SubX) (width : Nat)
structure Cfg where
  P : Program
  rows : List RowX
  loops : List LoopX
  kinds : List (Nat × KindX) := []

end Go.Sx

namespace Go.Sx
open Go
variable {Pl : Type}

/-- what is done bit by bit. -/
def bitsI (op : Nat) (k : IntKind) (x y : Int) : Int :=
  let a := BitVec.ofInt k.bits x
  let b := BitVec.ofInt k.bits y
  k.wrap (match op with
    | 0 => (a &&& b).toNat
    | 1 => (a ||| b).toNat
    | 2 => (a ^^^ b).toNat
    | _ => (a &&& ~~~b).toNat : Nat)
def IE.den (ρ : Env Pl) : IE → Int
  | .lit n => n
  | .var x => ρ.i x
  | .len x => ((ρ.s x).2.1 : Nat)
  | .wrap k a => k.wrap (a.den ρ)
  | .add a b => a.den ρ + b.den ρ
  | .sub a b => a.den ρ - b.den ρ
  | .mul a b => a.den ρ * b.den ρ
  | .quo a b => (a.den ρ).tdiv (b.den ρ)
  | .rem a b => (a.den ρ).tmod (b.den ρ)
  | .mn a b => if b.den ρ < a.den ρ then b.den ρ else a.den ρ
  | .mx a b => if a.den ρ < b.den ρ then b.den ρ else a.den ρ
  | .shl k a b => k.wrap (a.den ρ * 2 ^ (min (b.den ρ).toNat k.bits))
  | .shr a n => (a.den ρ).fdiv (2 ^ n)
  | .bits op k a b => bitsI op k (a.den ρ) (b.den ρ)
def BE.den (ρ : Env Pl) : BE → Bool
  | .lit b => b
  | .var x => ρ.b x
  | .not a => !a.den ρ
  | .eq a b => a.den ρ == b.den ρ
  | .lt a b => decide (a.den ρ < b.den ρ)
  | .le a b => decide (a.den ρ ≤ b.den ρ)
  | .and a b => a.den ρ && b.den ρ
  | .beq a b => a.den ρ == b.den ρ
  | .sm x => (ρ.s x).1.isSome
mutual
def SV.den (ρ : Env Pl) : SV → Value
  | .bool b => .bool (b.den ρ)
  | .int k e => .int k (e.den ρ)
  | .ptr x off => .pointer (some ⟨ρ.n x, off, none⟩)
  | .nilptr => .pointer none
  | .slc x => .slice (ρ.s x).1 (ρ.s x).2.1 (ρ.s x).2.2
  | .nilslc => .slice none 0 0
  | .row x off n c => .slice (some ⟨ρ.n x, off, none⟩) n c
  | .func fn a b => .func fn (SV.dens ρ a).toArray (SV.dens ρ b).toArray
  | .nilFunc => .nilFunc
  | .iface t v => .iface t (SV.den ρ v)
  | .nilIface => .nilIface
  | .agg cs => .agg (SV.dens ρ cs).toArray
  | .tup cs => .tuple (SV.dens ρ cs).toArray
  | .elem x e s => .pointer ((ρ.s x).1.map (fun a => a.add ((e.den ρ).toNat * s)))
  | .mptr b x => .pointer (if b.den ρ then none else some ⟨ρ.n x, 0, none⟩)
def SV.dens (ρ : Env Pl) : List SV → List Value
  | [] => []
  | v :: vs => SV.den ρ v :: SV.dens ρ vs
end
theorem dens_map (ρ : Env Pl) : ∀ l : List SV, SV.dens ρ l = l.map (SV.den ρ)
  | [] => by simp [SV.dens]
  | v :: vs => by simp [SV.dens, dens_map ρ vs]
theorem dens_len (ρ : Env Pl) (l : List SV) : (SV.dens ρ l).length = l.length := by simp [dens_map]
theorem dens_app (ρ : Env Pl) (a b : List SV) : SV.dens ρ (a ++ b) = SV.dens ρ a ++ SV.dens ρ b := by simp [dens_map]

/-- two settings of the names are alike below t. -/
structure Ext (t : Nat) (ρ ρ' : Env Pl) : Prop where
  i : ∀ x, x < t → ρ'.i x = ρ.i x
  b : ∀ x, x < t → ρ'.b x = ρ.b x
  n : ∀ x, x < t → ρ'.n x = ρ.n x
  s : ∀ x, x < t → ρ'.s x = ρ.s x
  p : ∀ x, x < t → ρ'.p x = ρ.p x
theorem Ext.refl (t : Nat) (ρ : Env Pl) : Ext t ρ ρ := ⟨fun _ _ => rfl, fun _ _ => rfl, fun _ _ => rfl, fun _ _ => rfl, fun _ _ => rfl⟩
theorem Ext.trans {t u : Nat} {a b c : Env Pl} (h : Ext t a b) (k : Ext u b c) (hu : t ≤ u) : Ext t a c :=
  ⟨fun x hx => (k.i x (by omega)).trans (h.i x hx), fun x hx => (k.b x (by omega)).trans (h.b x hx), fun x hx => (k.n x (by omega)).trans (h.n x hx), fun x hx => (k.s x (by omega)).trans (h.s x hx), fun x hx => (k.p x (by omega)).trans (h.p x hx)⟩
theorem Ext.put (ρ : Env Pl) (t : Nat) (o : Out Pl) : Ext t ρ (ρ.put t o) :=
  ⟨fun x hx => if_neg (by omega), fun x hx => if_neg (by omega), fun x hx => if_neg (by omega), fun x hx => if_neg (by omega), fun x hx => if_neg (by omega)⟩

theorem IE.ext {t : Nat} {ρ ρ' : Env Pl} (h : Ext t ρ ρ') : ∀ e : IE, e.lo t = true → e.den ρ' = e.den ρ
  | .lit _, _ => rfl
  | .var x, hl => h.i x (by simpa [IE.lo] using hl)
  | .len x, hl => by simp only [IE.den]; rw [h.s x (by simpa [IE.lo] using hl)]
  | .wrap k a, hl => by simp only [IE.den]; rw [IE.ext h a (by simpa [IE.lo] using hl)]
  | .add a b, hl => by simp only [IE.lo, Bool.and_eq_true] at hl; simp only [IE.den]; rw [IE.ext h a hl.1, IE.ext h b hl.2]
  | .sub a b, hl => by simp only [IE.lo, Bool.and_eq_true] at hl; simp only [IE.den]; rw [IE.ext h a hl.1, IE.ext h b hl.2]
  | .mul a b, hl => by simp only [IE.lo, Bool.and_eq_true] at hl; simp only [IE.den]; rw [IE.ext h a hl.1, IE.ext h b hl.2]
  | .quo a b, hl => by simp only [IE.lo, Bool.and_eq_true] at hl; simp only [IE.den]; rw [IE.ext h a hl.1, IE.ext h b hl.2]
  | .rem a b, hl => by simp only [IE.lo, Bool.and_eq_true] at hl; simp only [IE.den]; rw [IE.ext h a hl.1, IE.ext h b hl.2]
  | .mn a b, hl => by simp only [IE.lo, Bool.and_eq_true] at hl; simp only [IE.den]; rw [IE.ext h a hl.1, IE.ext h b hl.2]
  | .mx a b, hl => by simp only [IE.lo, Bool.and_eq_true] at hl; simp only [IE.den]; rw [IE.ext h a hl.1, IE.ext h b hl.2]
  | .shl k a b, hl => by simp only [IE.lo, Bool.and_eq_true] at hl; simp only [IE.den]; rw [IE.ext h a hl.1, IE.ext h b hl.2]
  | .shr a n, hl => by simp only [IE.lo] at hl; simp only [IE.den]; rw [IE.ext h a hl]
  | .bits op k a b, hl => by simp only [IE.lo, Bool.and_eq_true] at hl; simp only [IE.den]; rw [IE.ext h a hl.1, IE.ext h b hl.2]
theorem BE.ext {t : Nat} {ρ ρ' : Env Pl} (h : Ext t ρ ρ') : ∀ e : BE, e.lo t = true → e.den ρ' = e.den ρ
  | .lit _, _ => rfl
  | .var x, hl => h.b x (by simpa [BE.lo] using hl)
  | .not a, hl => by simp only [BE.den]; rw [BE.ext h a (by simpa [BE.lo] using hl)]
  | .eq a b, hl => by simp only [BE.lo, Bool.and_eq_true] at hl; simp only [BE.den]; rw [IE.ext h a hl.1, IE.ext h b hl.2]
  | .lt a b, hl => by simp only [BE.lo, Bool.and_eq_true] at hl; simp only [BE.den]; rw [IE.ext h a hl.1, IE.ext h b hl.2]
  | .le a b, hl => by simp only [BE.lo, Bool.and_eq_true] at hl; simp only [BE.den]; rw [IE.ext h a hl.1, IE.ext h b hl.2]
  | .and a b, hl => by simp only [BE.lo, Bool.and_eq_true] at hl; simp only [BE.den]; rw [BE.ext h a hl.1, BE.ext h b hl.2]
  | .beq a b, hl => by simp only [BE.lo, Bool.and_eq_true] at hl; simp only [BE.den]; rw [BE.ext h a hl.1, BE.ext h b hl.2]
  | .sm x, hl => by simp only [BE.lo, decide_eq_true_eq] at hl; simp only [BE.den]; rw [h.s x hl]
mutual
theorem SV.ext {t : Nat} {ρ ρ' : Env Pl} (h : Ext t ρ ρ') : ∀ v : SV, SV.lo t v = true → SV.den ρ' v = SV.den ρ v
  | .bool b, hl => by simp only [SV.lo] at hl; simp only [SV.den]; rw [BE.ext h b hl]
  | .int k e, hl => by simp only [SV.lo] at hl; simp only [SV.den]; rw [IE.ext h e hl]
  | .ptr x off, hl => by simp only [SV.lo, decide_eq_true_eq] at hl; simp only [SV.den]; rw [h.n x hl]
  | .nilptr, _ => by simp [SV.den]
  | .slc x, hl => by simp only [SV.lo, decide_eq_true_eq] at hl; simp only [SV.den]; rw [h.s x hl]
  | .nilslc, _ => by simp [SV.den]
  | .row x off n c, hl => by simp only [SV.lo, decide_eq_true_eq] at hl; simp only [SV.den]; rw [h.n x hl]
  | .func fn a b, hl => by simp only [SV.lo, Bool.and_eq_true] at hl; simp only [SV.den]; rw [SV.exts h a hl.1, SV.exts h b hl.2]
  | .nilFunc, _ => by simp [SV.den]
  | .iface t v, hl => by simp only [SV.lo] at hl; simp only [SV.den]; rw [SV.ext h v hl]
  | .nilIface, _ => by simp [SV.den]
  | .agg cs, hl => by simp only [SV.lo] at hl; simp only [SV.den]; rw [SV.exts h cs hl]
  | .tup cs, hl => by simp only [SV.lo] at hl; simp only [SV.den]; rw [SV.exts h cs hl]
  | .elem x e s, hl => by simp only [SV.lo, Bool.and_eq_true, decide_eq_true_eq] at hl; simp only [SV.den]; rw [h.s x hl.1, IE.ext h e hl.2]
  | .mptr b x, hl => by simp only [SV.lo, Bool.and_eq_true, decide_eq_true_eq] at hl; simp only [SV.den]; rw [h.n x hl.2, BE.ext h b hl.1]
theorem SV.exts {t : Nat} {ρ ρ' : Env Pl} (h : Ext t ρ ρ') : ∀ l : List SV, SV.los t l = true → SV.dens ρ' l = SV.dens ρ l
  | [], _ => by simp [SV.dens]
  | v :: vs, hl => by simp only [SV.los, Bool.and_eq_true] at hl; simp only [SV.dens]; rw [SV.ext h v hl.1, SV.exts h vs hl.2]
end

mutual
theorem ofV_den (ρ : Env Pl) : ∀ (m : Nat) (v : Value) (x : SV), SV.ofV m v = some x → SV.den ρ x = v
  | 0, v, x, h => by simp [SV.ofV] at h
  | m + 1, v, x, h => by
    unfold SV.ofV at h
    split at h <;> first
      | (cases h; simp [SV.den, BE.den, IE.den]; done)
      | (obtain ⟨y, hy, rfl⟩ := Option.map_eq_some_iff.1 h; simp only [SV.den]; rw [ofVs_den ρ m _ _ hy])
      | cases h
theorem ofVs_den (ρ : Env Pl) : ∀ (m : Nat) (v : List Value) (x : List SV), SV.ofVs m v = some x → SV.dens ρ x = v
  | 0, v, x, h => by simp [SV.ofVs] at h
  | m + 1, [], x, h => by simp [SV.ofVs] at h; subst h; simp [SV.dens]
  | m + 1, v :: vs, x, h => by
    unfold SV.ofVs at h
    split at h
    · rename_i a b ha hb
      cases h
      simp only [SV.dens]
      rw [ofV_den ρ m v _ ha, ofVs_den ρ m vs _ hb]
    · cases h
end

theorem mk1_den (ρ : Env Pl) (k : IntKind) (e : IE) : (IE.mk1 k e).den ρ = k.wrap (e.den ρ) := by
  unfold IE.mk1; split <;> rfl
theorem mk2_den (ρ : Env Pl) (f : Int → Int → Int) (g : IE → IE → IE) (hg : ∀ a b, (g a b).den ρ = f (a.den ρ) (b.den ρ)) (a b : IE) : (IE.mk2 f g a b).den ρ = f (a.den ρ) (b.den ρ) := by
  unfold IE.mk2; split
  · rfl
  · exact hg _ _

/-- what is known holds. -/
def AsmOk (ρ : Env Pl) (asm : List (BE × Bool)) : Prop := ∀ x ∈ asm, x.1.den ρ = x.2
theorem asmLook_den {ρ : Env Pl} : ∀ {asm : List (BE × Bool)} {b : BE} {v : Bool}, AsmOk ρ asm → asmLook asm b = some v → b.den ρ = v
  | [], _, _, _, h => by simp [asmLook] at h
  | (c, u) :: l, b, v, hA, h => by
    unfold asmLook at h
    split at h
    · rename_i e
      cases h
      rw [← e]
      exact hA (c, u) (List.mem_cons_self ..)
    · exact asmLook_den (fun x hx => hA x (List.mem_cons_of_mem _ hx)) h
theorem eqLook_den {ρ : Env Pl} : ∀ {asm : List (BE × Bool)} {e : IE} {y : Int} {v : Bool}, AsmOk ρ asm → eqLook asm e y = some v → (e.den ρ == y) = v
  | [], _, _, _, _, h => by simp [eqLook] at h
  | (c, u) :: l, e, y, v, hA, h => by
    have hl : AsmOk ρ l := fun x hx => hA x (List.mem_cons_of_mem _ hx)
    unfold eqLook at h
    split at h
    · rename_i a x
      split at h
      · rename_i he
        cases h
        have := hA _ (List.mem_cons_self ..)
        simp only [BE.den, IE.den, beq_iff_eq] at this
        rw [← he, this]
      · exact eqLook_den hl h
    · exact eqLook_den hl h
theorem known_den {ρ : Env Pl} {asm : List (BE × Bool)} (hA : AsmOk ρ asm) : ∀ {b : BE} {v : Bool}, b.known asm = some v → b.den ρ = v
  | .lit _, _, h => by simp [BE.known] at h; simpa [BE.den] using h
  | .var _, _, h => by simp only [BE.known] at h; exact asmLook_den hA h
  | .not a, v, h => by
    unfold BE.known at h
    split at h
    · rename_i u hu
      cases h
      simp only [BE.den]
      rw [known_den hA hu]
    · exact asmLook_den hA h
  | .eq a b, v, h => by
    unfold BE.known at h
    split at h <;> first
      | (cases h; done)
      | (rename_i e; cases e; cases h; rfl)
      | exact asmLook_den hA h
      | skip
    all_goals first
      | (rename_i e
         cases e
         split at h
         · rename_i u hu
           cases h
           exact asmLook_den hA hu
         · exact eqLook_den hA h)
      | simp_all
  | .lt a b, v, h => by
    unfold BE.known at h
    split at h <;> first
      | (rename_i e; cases e; cases h; rfl)
      | exact asmLook_den hA h
      | skip
    all_goals simp_all
  | .le a b, v, h => by
    unfold BE.known at h
    split at h <;> first
      | (rename_i e; cases e; cases h; rfl)
      | exact asmLook_den hA h
      | skip
    all_goals simp_all
  | .and a b, v, h => by simp only [BE.known] at h; exact asmLook_den hA h
  | .beq a b, v, h => by simp only [BE.known] at h; exact asmLook_den hA h
  | .sm x, v, h => by simp only [BE.known] at h; exact asmLook_den hA h
theorem mk_den {ρ : Env Pl} {asm : List (BE × Bool)} (hA : AsmOk ρ asm) (b : BE) : (BE.mk asm b).den ρ = b.den ρ := by
  unfold BE.mk
  split
  · rename_i v hv
    exact (known_den hA hv).symm
  · rfl
end Go.Sx

namespace Go.Sx
open Go
variable {Pl : Type}

structure TSat (ρ : Env Pl) (st : St) (a : Act) : Prop where
  size : a.tmps.size = st.nt
  defers : a.defers = []
  tmps : ∀ t v, look st.tmps t = some v → a.tmps[t]? = some (SV.den ρ v)
  asm : AsmOk ρ st.asm

theorem norm_den {ρ : Env Pl} {asm : List (BE × Bool)} (hA : AsmOk ρ asm) (v : SV) : SV.den ρ (v.norm asm) = SV.den ρ v := by
  cases v <;> simp only [SV.norm]
  split
  · rename_i h; simp [SV.den, known_den hA h]
  · rename_i h; simp [SV.den, known_den hA h]
  · rfl
theorem ev_den {ρ : Env Pl} {st : St} {a : Act} (h : TSat ρ st a) {x : Operand} {v : SV} (hx : st.ev x = some v) : a.eval x = SV.den ρ v := by
  cases x with
  | tmp t =>
    simp only [St.ev] at hx
    split at hx
    · rename_i u hu
      cases hx
      rw [norm_den h.asm]
      simp [Act.eval, Array.getD_eq_getD_getElem?, h.tmps t u hu]
    · cases hx
  | const c => simp only [St.ev] at hx; exact (ofV_den ρ _ _ _ hx).symm
  | global g => simp [St.ev] at hx
  | func f => simp only [St.ev, Option.some.injEq] at hx; subst hx; simp [Act.eval, SV.den, SV.dens]
theorem evs_den {ρ : Env Pl} {st : St} {a : Act} (h : TSat ρ st a) : ∀ {xs : List Operand} {vs : List SV}, st.evs xs = some vs → xs.map a.eval = SV.dens ρ vs
  | [], vs, hx => by simp [St.evs] at hx; subst hx; simp [SV.dens]
  | x :: xs, vs, hx => by
    unfold St.evs at hx
    split at hx
    · rename_i v ws hv hw
      cases hx
      simp only [List.map_cons, SV.dens, ev_den h hv, evs_den h hw]
    · cases hx
theorem evParts_den {ρ : Env Pl} {st : St} {a : Act} (h : TSat ρ st a) : ∀ {xs : List (Nat × Operand)} {vs : List (Nat × SV)}, evParts st xs = some vs → xs.map (fun (i, x) => (i, a.eval x)) = vs.map (fun (i, v) => (i, SV.den ρ v))
  | [], vs, hx => by simp [evParts] at hx; subst hx; rfl
  | (i, x) :: xs, vs, hx => by
    unfold evParts at hx
    split at hx
    · rename_i v ws hv hw
      cases hx
      simp only [List.map_cons, ev_den h hv, evParts_den h hw]
    · cases hx

theorem put_tsat {ρ : Env Pl} {st : St} {a : Act} (h : TSat ρ st a) (d : Option Nat) (v : SV) : TSat ρ (st.put d v) (a.put d (SV.den ρ v)) := by
  cases d with
  | none => exact h
  | some t =>
    by_cases hlt : t < st.nt
    · simp only [St.put, Act.put, if_pos hlt]
      refine ⟨by simpa using h.size, h.defers, fun u x hx => ?_, h.asm⟩
      simp only [look] at hx
      by_cases e : t = u
      · subst e
        rw [if_pos rfl] at hx
        cases hx
        have := h.size
        rw [Array.getElem?_setIfInBounds_self, if_pos (by omega)]
      · rw [if_neg e] at hx
        rw [Array.getElem?_setIfInBounds_ne e]
        exact h.tmps u x hx
    · have := h.size
      simp only [St.put, Act.put, if_neg hlt]
      have e : a.tmps.setIfInBounds t (SV.den ρ v) = a.tmps := by
        unfold Array.setIfInBounds
        rw [dif_neg (by omega)]
      exact ⟨by simpa using h.size, h.defers, fun u x hx => by rw [e]; exact h.tmps u x hx, h.asm⟩

/-! arithmetic -/
theorem cmpOp_den {ρ : Env Pl} {asm : List (BE × Bool)} (hA : AsmOk ρ asm) {P : Program} {w : World} {op : BinOp} {a b : IE} {v : SV} (h : cmpOp asm op a b = some v) :
    (Op.intCmp op (a.den ρ) (b.den ρ)).run P w = .ok (SV.den ρ v) w := by
  cases op <;> simp only [cmpOp, Option.some.injEq, reduceCtorEq] at h <;> subst h <;> simp [Op.intCmp, SV.den, mk_den hA, BE.den, bne]
theorem divX_den {ρ : Env Pl} {b : IE} {c : List BE} (h : divX b = some c) (hc : ∀ x ∈ c, x.den ρ = true) : b.den ρ ≠ 0 := by
  unfold divX at h
  split at h
  · split at h
    · cases h
    · assumption
  · cases h
    have := hc _ (List.mem_singleton_self _)
    simpa [BE.den, IE.den] using this
theorem noNeed_spec {o : Option SV} {c : List BE} {v : SV} (h : noNeed o = some (c, v)) : o = some v := by
  cases o <;> simp_all [noNeed]
theorem shiftX_den {ρ : Env Pl} {P : Program} {w : World} {op : BinOp} {k k' : IntKind} {a b : IE} {c : List BE} {v : SV} (t : TypeId) (ho : op = .shl ∨ op = .shr) (h : shiftX op k a b = some (c, v)) :
    (binOp op t (.int k (a.den ρ)) (.int k' (b.den ρ))).run P w = .ok (SV.den ρ v) w := by
  unfold shiftX at h
  split at h
  · rename_i n
    split at h
    · rename_i h0
      have hn : ¬ (n < 0) := by omega
      rcases ho with rfl | rfl
      · simp only [Option.some.injEq, Prod.mk.injEq] at h
        obtain ⟨-, rfl⟩ := h
        show Sem.run P (if n < 0 then runtimePanic (.error "negative shift amount") else pure (Value.int k (k.wrap (a.den ρ * 2 ^ (min n.toNat k.bits))))) w = _
        rw [if_neg hn]
        simp only [Sem.run_pure, SV.den, IE.den]
      · simp only [Option.some.injEq, Prod.mk.injEq] at h
        obtain ⟨-, rfl⟩ := h
        show Sem.run P (if n < 0 then runtimePanic (.error "negative shift amount") else pure (Value.int k ((a.den ρ).fdiv (2 ^ (min n.toNat k.bits))))) w = _
        rw [if_neg hn]
        simp only [Sem.run_pure, SV.den, IE.den]
    · cases h
  · cases h
theorem intOp_den {ρ : Env Pl} {asm : List (BE × Bool)} (hA : AsmOk ρ asm) {P : Program} {w : World} {op : BinOp} {k : IntKind} {a b : IE} {c : List BE} {v : SV} (t : TypeId) (h : intOp asm op k a b = some (c, v)) (hc : ∀ x ∈ c, x.den ρ = true) :
    (binOp op t (.int k (a.den ρ)) (.int k (b.den ρ))).run P w = .ok (SV.den ρ v) w := by
  cases op <;> simp only [intOp, Option.some.injEq, Prod.mk.injEq, reduceCtorEq] at h
  case add => obtain ⟨-, rfl⟩ := h; simp [binOp, Op.intArith, SV.den, mk1_den, mk2_den ρ _ IE.add (fun _ _ => rfl)]
  case sub => obtain ⟨-, rfl⟩ := h; simp [binOp, Op.intArith, SV.den, mk1_den, mk2_den ρ _ IE.sub (fun _ _ => rfl)]
  case mul => obtain ⟨-, rfl⟩ := h; simp [binOp, Op.intArith, SV.den, mk1_den, mk2_den ρ _ IE.mul (fun _ _ => rfl)]
  case quo =>
    split at h
    · rename_i c' hd
      cases h
      have hn := divX_den hd hc
      simp [binOp, Op.intDiv, SV.den, mk1_den, mk2_den ρ _ IE.quo (fun _ _ => rfl), hn]
    · cases h
  case rem =>
    split at h
    · rename_i c' hd
      cases h
      have hn := divX_den hd hc
      simp [binOp, Op.intDiv, SV.den, mk2_den ρ _ IE.rem (fun _ _ => rfl), hn]
    · cases h
  case and => obtain ⟨-, rfl⟩ := h; simp [binOp, Op.intBits, SV.den, IE.den, bitsI]
  case or => obtain ⟨-, rfl⟩ := h; simp [binOp, Op.intBits, SV.den, IE.den, bitsI]
  case xor => obtain ⟨-, rfl⟩ := h; simp [binOp, Op.intBits, SV.den, IE.den, bitsI]
  case andNot => obtain ⟨-, rfl⟩ := h; simp [binOp, Op.intBits, SV.den, IE.den, bitsI]
  all_goals
    have e := cmpOp_den hA (P := P) (w := w) (noNeed_spec h)
    simpa [binOp] using e
end Go.Sx

namespace Go.Sx
open Go
variable {Pl : Type}

theorem run_underlying {P : Program} {t : TypeId} {d : TypeDesc} (h : P.underlying t = some d) (w : World) : (underlying t).run P w = .ok d w := by
  simp [underlying, h]
theorem run_typeInfo {P : Program} {t : TypeId} {d : TypeInfo} (h : P.info? t = some d) (w : World) : (typeInfo t).run P w = .ok d w := by
  simp [typeInfo, h]
theorem run_sizeOf {P : Program} {t n : Nat} (h : sizeX P t = some n) (w : World) : (sizeOf t).run P w = .ok n w := by
  unfold sizeX at h
  obtain ⟨i, hi, rfl⟩ := Option.map_eq_some_iff.1 h
  simp [sizeOf, run_typeInfo hi]
theorem run_isAgg {P : Program} {t : Nat} {b : Bool} (h : isAggB P t = some b) (w : World) : (isAgg t).run P w = .ok b w := by
  unfold isAggB at h
  split at h <;> cases h <;> rename_i hu <;> simp only [isAgg, Sem.run_bind, run_underlying hu, Result.andThen_ok] <;> (try rfl)

theorem eqB_den {ρ : Env Pl} {P : Program} {w : World} {op : BinOp} {T : Nat} {b : Bool} {v : SV} {x y : Value} (h : eqB op b = some v) (he : (Op.equal T x y).run P w = .ok b w)
    (hb : ∀ op, binOp op T x y = match op with | .eql => (do pure (.bool (← Op.equal T x y))) | .neq => (do pure (.bool (!(← Op.equal T x y)))) | op => binOp op T x y) :
    (binOp op T x y).run P w = .ok (SV.den ρ v) w := by
  cases op <;> simp only [eqB, Option.some.injEq, reduceCtorEq] at h <;> subst h <;> rw [hb] <;> simp [he, SV.den, BE.den]

theorem guard_off {op : BinOp} {t : TypeId} {x y : Operand} {a b : Value} {P : Program} {w : World} (h1 : ¬ (a = .nilIface ∧ b = .nilIface)) (h2 : ∀ c d, ¬ (a = .agg c ∧ b = .agg d)) : (eqGuard op t x y a b).run P w = .ok () w := by
  unfold eqGuard
  split
  · simp only [Bool.not_true, Bool.false_eq_true, if_false]
    split
    · exact absurd ⟨rfl, rfl⟩ h1
    · exact absurd ⟨rfl, rfl⟩ (h2 _ _)
    · rfl
  · simp only [Bool.not_true, Bool.false_eq_true, if_false]
    split
    · exact absurd ⟨rfl, rfl⟩ h1
    · exact absurd ⟨rfl, rfl⟩ (h2 _ _)
    · rfl
  · rfl
theorem guard_nil {op : BinOp} {t : TypeId} {x y : Operand} {P : Program} {w : World} (h : (isConstO x || isConstO y) = true) : (eqGuard op t x y .nilIface .nilIface).run P w = .ok () w := by
  unfold eqGuard
  split
  · cases x <;> cases y <;> first
      | rfl
      | (simp [isConstO] at h)
  · cases x <;> cases y <;> first
      | rfl
      | (simp [isConstO] at h)
  · rfl

theorem equal_at (T : Nat) (x y : Value) : Op.equal T x y = Op.equalIn (9999 + 1) T x y := rfl
theorem equalIn_bool {P : Program} {T : Nat} (hu : P.underlying T = some .bool) (d : Nat) (a b : Bool) (w : World) : (Op.equalIn (d + 1) T (.bool a) (.bool b)).run P w = .ok (a == b) w := by
  simp only [Op.equalIn, Sem.run_bind, run_underlying hu, Result.andThen_ok]; rfl
theorem equalIn_ptr {P : Program} {T e : Nat} (hu : P.underlying T = some (.pointer e)) (d : Nat) (x : Option Addr) (w : World) : (Op.equalIn (d + 1) T (.pointer x) (.pointer none)).run P w = .ok x.isNone w := by
  cases x <;> (simp only [Op.equalIn, Sem.run_bind, run_underlying hu, Result.andThen_ok]; rfl)
theorem equalIn_iface {P : Program} {T : Nat} {e : Array (String × TypeId)} (hu : P.underlying T = some (.interface e)) (d : Nat) (t : Nat) (v : Value) (w : World) : (Op.equalIn (d + 1) T (.iface t v) .nilIface).run P w = .ok false w := by
  simp only [Op.equalIn, Sem.run_bind, run_underlying hu, Result.andThen_ok]; rfl
theorem equalIn_niface {P : Program} {T : Nat} {e : Array (String × TypeId)} (hu : P.underlying T = some (.interface e)) (d : Nat) (w : World) : (Op.equalIn (d + 1) T .nilIface .nilIface).run P w = .ok true w := by
  simp only [Op.equalIn, Sem.run_bind, run_underlying hu, Result.andThen_ok]; rfl
theorem equalIn_func {P : Program} {T : Nat} {p r : Array TypeId} {vr : Bool} (hu : P.underlying T = some (.func p r vr)) (d : Nat) (f : Fn) (a b : Array Value) (w : World) : (Op.equalIn (d + 1) T (.func f a b) .nilFunc).run P w = .ok false w := by
  simp only [Op.equalIn, Sem.run_bind, run_underlying hu, Result.andThen_ok]; rfl
theorem equalIn_nfunc {P : Program} {T : Nat} {p r : Array TypeId} {vr : Bool} (hu : P.underlying T = some (.func p r vr)) (d : Nat) (w : World) : (Op.equalIn (d + 1) T .nilFunc .nilFunc).run P w = .ok true w := by
  simp only [Op.equalIn, Sem.run_bind, run_underlying hu, Result.andThen_ok]; rfl
theorem binOp_eq {op : BinOp} {T : Nat} {x y : Value} (h : match x, y with | .bool _, .bool _ | .pointer _, .pointer none | .iface _ _, .nilIface | .nilIface, .nilIface | .func _ _ _, .nilFunc | .nilFunc, .nilFunc => True | _, _ => False) :
    binOp op T x y = match op with | .eql => (do pure (.bool (← Op.equal T x y))) | .neq => (do pure (.bool (!(← Op.equal T x y)))) | op => binOp op T x y := by
  split at h <;> first
    | (cases op <;> rfl)
    | exact h.elim
theorem binX_den {ρ : Env Pl} {asm : List (BE × Bool)} (hA : AsmOk ρ asm) {P : Program} {w : World} {op : BinOp} {T : Nat} {x y : Operand} {a b v : SV} (h : binX P asm op T (isConstO x || isConstO y) a b = some v) :
    (do eqGuard op T x y (SV.den ρ a) (SV.den ρ b); binOp op T (SV.den ρ a) (SV.den ρ b)).run P w = .ok (SV.den ρ v) w := by
  unfold binX at h
  split at h
  · rename_i a b
    simp only [Sem.run_bind, SV.den]
    rw [guard_off (by simp) (by simp)]
    split at h
    · rename_i hu
      cases h
      have e : (Op.equal T (.bool (a.den ρ)) (.bool (b.den ρ))).run P w = .ok (a.den ρ == b.den ρ) w := by
        exact equalIn_bool hu 9999 _ _ w
      simp [binOp, e, SV.den, mk_den hA, BE.den]
    · rename_i hu
      cases h
      have e : (Op.equal T (.bool (a.den ρ)) (.bool (b.den ρ))).run P w = .ok (a.den ρ == b.den ρ) w := by
        exact equalIn_bool hu 9999 _ _ w
      simp [binOp, e, SV.den, mk_den hA, BE.den]
    · cases h
  all_goals first
    | (cases h; done)
    | skip
  all_goals
    simp only [Sem.run_bind, SV.den]
    split at h <;> first
      | (cases h; done)
      | skip
  all_goals rename_i hu
  · rw [guard_off (by simp) (by simp)]
    exact eqB_den h (equalIn_ptr hu 9999 _ w) (fun op => binOp_eq trivial)
  · rw [guard_off (by simp) (by simp)]
    exact eqB_den h (equalIn_ptr hu 9999 none w) (fun op => binOp_eq trivial)
  · rw [guard_off (by simp) (by simp)]
    cases h
    have e : ∀ (b : Bool) (x : Addr), (Op.equal T (.pointer (if b then none else some x)) (.pointer none)).run P w = .ok b w := fun b x => by
      rw [equal_at, equalIn_ptr hu]
      cases b <;> rfl
    simp [binOp, e, SV.den, mk_den hA]
  · rw [guard_off (by simp) (by simp)]
    cases h
    have e : ∀ (b : Bool) (x : Addr), (Op.equal T (.pointer (if b then none else some x)) (.pointer none)).run P w = .ok b w := fun b x => by
      rw [equal_at, equalIn_ptr hu]
      cases b <;> rfl
    simp [binOp, e, SV.den, mk_den hA, BE.den]
  · rw [guard_off (by simp) (by simp)]
    exact eqB_den h (equalIn_iface hu 9999 _ _ w) (fun op => binOp_eq trivial)
  · split at h
    · rename_i hc
      rw [guard_nil hc]
      exact eqB_den h (equalIn_niface hu 9999 w) (fun op => binOp_eq trivial)
    · cases h
  · rw [guard_off (by simp) (by simp)]
    exact eqB_den h (equalIn_func hu 9999 _ _ _ w) (fun op => binOp_eq trivial)
  · rw [guard_off (by simp) (by simp)]
    exact eqB_den h (equalIn_nfunc hu 9999 w) (fun op => binOp_eq trivial)
theorem bin2_den {ρ : Env Pl} {asm : List (BE × Bool)} (hA : AsmOk ρ asm) {P : Program} {w : World} {op : BinOp} {T : Nat} {x y : Operand} {a b v : SV} {c : List BE} (h : bin2 P asm op T (isConstO x || isConstO y) a b = some (c, v)) (hc : ∀ z ∈ c, z.den ρ = true) :
    (do eqGuard op T x y (SV.den ρ a) (SV.den ρ b); binOp op T (SV.den ρ a) (SV.den ρ b)).run P w = .ok (SV.den ρ v) w := by
  unfold bin2 at h
  split at h
  · simp only [Sem.run_bind, SV.den]
    rw [guard_off (by simp) (by simp)]
    split at h
    · exact shiftX_den T (.inl rfl) h
    · exact shiftX_den T (.inr rfl) h
    · split at h
      · rename_i hk
        subst hk
        exact intOp_den hA T h hc
      · cases h
  · exact binX_den hA (noNeed_spec h)
end Go.Sx

namespace Go.Sx
open Go
variable {Pl : Type}

theorem cells_den (ρ : Env Pl) (v : SV) : (SV.den ρ v).cells = (SV.dens ρ v.cells).toArray := by
  cases v <;> simp [SV.den, SV.cells, Value.cells, SV.dens]
theorem flat_den (ρ : Env Pl) (v : SV) (h : v.flat = true) : (SV.den ρ v).oneCell' = true := by
  cases v <;> first
    | (simp [SV.flat] at h; done)
    | simp [SV.den, Value.oneCell']
theorem cut_den (ρ : Env Pl) (l : List SV) (off n : Nat) : (SV.dens ρ l).toArray.extract off (off + n) = (SV.dens ρ (cutX l off n)).toArray := by
  simp [cutX, dens_map, List.extract_eq_take_drop, List.map_take, List.map_drop]

def putV : List Value → Nat → List Value → List Value
  | l, _, [] => l
  | [], _, _ => []
  | _ :: l, 0, v :: vs => v :: putV l 0 vs
  | x :: l, n + 1, vs => x :: putV l n vs
theorem put_den (ρ : Env Pl) : ∀ (l : List SV) (n : Nat) (vs : List SV), SV.dens ρ (putX l n vs) = putV (SV.dens ρ l) n (SV.dens ρ vs)
  | [], n, [] => by simp [putX, putV, SV.dens]
  | x :: l, n, [] => by simp [putX, putV, SV.dens]
  | [], n, v :: vs => by simp [putX, putV, SV.dens]
  | x :: l, 0, v :: vs => by simp [putX, putV, SV.dens, put_den ρ l 0 vs]
  | x :: l, n + 1, v :: vs => by
    have := put_den ρ l n (v :: vs)
    simp only [SV.dens] at this
    simp [putX, putV, SV.dens, this]
theorem putV_len : ∀ (l : List Value) (n : Nat) (vs : List Value), (putV l n vs).length = l.length
  | [], n, [] => by simp [putV]
  | x :: l, n, [] => by simp [putV]
  | [], n, v :: vs => by simp [putV]
  | x :: l, 0, v :: vs => by simp [putV, putV_len l 0 vs]
  | x :: l, n + 1, v :: vs => by simp [putV, putV_len l n (v :: vs)]
theorem putV_nil (l : List Value) (n : Nat) : putV l n [] = l := by cases l <;> simp [putV]
theorem putV_cons : ∀ (l : List Value) (n : Nat) (v : Value) (vs : List Value), putV l n (v :: vs) = putV (l.set n v) (n + 1) vs
  | [], n, v, [] => by simp [putV]
  | [], n, v, u :: vs => by simp [putV]
  | x :: l, 0, v, [] => by simp [putV, putV_nil]
  | x :: l, 0, v, u :: vs => by simp [putV]
  | x :: l, n + 1, v, vs => by
    simp only [putV, List.set_cons_succ]
    rw [putV_cons l n v vs]
    cases vs with
    | nil => simp [putV, putV_nil]
    | cons u vs => simp [putV]
theorem foldl_put (off : Nat) : ∀ (vs : List Value) (j : Nat) (cells : Array Value), (vs.zipIdx j).foldl (fun cs x => cs.setIfInBounds (off + x.2) x.1) cells = (putV cells.toList (off + j) vs).toArray
  | [], j, cells => by simp [putV_nil]
  | v :: vs, j, cells => by
    simp only [List.zipIdx_cons, List.foldl_cons]
    rw [foldl_put off vs (j + 1), putV_cons, Array.toList_setIfInBounds]
    rfl
theorem foldl_put' (off : Nat) (vs : Array Value) (cells : Array Value) : vs.zipIdx.foldl (fun cs x => cs.setIfInBounds (off + x.2) x.1) cells = (putV cells.toList off vs.toList).toArray := by
  rw [← Array.foldl_toList, Array.toList_zipIdx]
  exact foldl_put off vs.toList 0 cells

theorem fill_den (ρ : Env Pl) (places : List (Nat × Nat)) (place : Nat → Option (Nat × Nat)) (hpl : ∀ i x, places[i]? = some x → place i = some x) : ∀ (ps : List (Nat × SV)) (cs r : List SV), fillX places cs ps = some r →
    Instr.fill place (SV.dens ρ cs).toArray (ps.map fun (i, v) => (i, SV.den ρ v)) = some (SV.dens ρ r).toArray
  | [], cs, r, h => by simp [fillX] at h; subst h; simp [Instr.fill]
  | (i, v) :: l, cs, r, h => by
    unfold fillX at h
    split at h
    · rename_i off n hp
      split at h
      · rename_i hc
        have ih := fill_den ρ places place hpl l _ _ h
        simp only [List.map_cons]
        unfold Instr.fill
        have e1 : place i = some (off, n) := hpl i _ hp
        simp only [e1, cells_den]
        have e2 : (SV.dens ρ v.cells).length = n := by rw [dens_len]; exact hc.1
        have e3 : (SV.dens ρ cs).length = cs.length := dens_len ρ cs
        rw [if_neg (by simp [e2, e3]; omega)]
        have e4 := foldl_put' off (SV.dens ρ v.cells).toArray (SV.dens ρ cs).toArray
        rw [put_den] at ih
        rw [← ih]
        congr 1
      · cases h
    · cases h
theorem places_den {P : Program} : ∀ {fs : List Field} {ps : List (Nat × Nat)}, placesX P fs = some ps → fs.mapM (fun f => (P.info? f.type).map fun i => (f.offset, i.size)) = some ps
  | [], ps, h => by simp [placesX] at h; subst h; rfl
  | f :: l, ps, h => by
    unfold placesX at h
    split at h
    · rename_i n qs hn hq
      cases h
      unfold sizeX at hn
      obtain ⟨i, hi, rfl⟩ := Option.map_eq_some_iff.1 hn
      simp [List.mapM_cons, hi, places_den hq]
    · cases h
theorem structX_un {P : Program} {t : Nat} {fs : Array Field} (h : structX P t = some fs) : P.underlying t = some (.struct fs) := by
  unfold structX at h
  split at h
  · cases h; assumption
  · cases h
theorem zeroX_den {P : Program} (ρ : Env Pl) {t : Nat} {v : SV} (h : zeroX P t = some v) : ∃ i, P.info? t = some i ∧ i.zero = some (SV.den ρ v) := by
  unfold zeroX at h
  split at h
  · rename_i i hi
    split at h
    · rename_i z hz
      exact ⟨i, hi, by rw [hz, ofV_den ρ _ _ _ h]⟩
    · cases h
  · cases h
theorem build_den {P : Program} {ρ : Env Pl} {st : St} {a : Act} (h : TSat ρ st a) {t : Nat} {parts : Array (Nat × Operand)} {v : SV} (hb : buildX P st t parts = some v) (w : World) :
    (Instr.build t (parts.map fun (i, x) => (i, a.eval x))).run P w = .ok (SV.den ρ v) w := by
  unfold buildX at hb
  split at hb
  · rename_i fs z ps hs hz hp
    split at hb
    · rename_i pl hpl
      obtain ⟨r, hr, rfl⟩ := Option.map_eq_some_iff.1 hb
      obtain ⟨i, hi, hiz⟩ := zeroX_den ρ hz
      have hbuilt : P.built t (parts.map fun (i, x) => (i, a.eval x)).toList = some (SV.dens ρ r).toArray := by
        unfold Program.built
        simp only [hi, structX_un hs, hiz, places_den hpl, cells_den]
        have e := evParts_den h hp
        have e' : (parts.map fun (i, x) => (i, a.eval x)).toList = ps.map fun (i, v) => (i, SV.den ρ v) := by
          rw [← e]; simp
        rw [e']
        exact fill_den ρ pl _ (fun i x hx => by simpa using hx) ps _ _ hr
      have := run_build w t (parts.map fun (i, x) => (i, a.eval x)) _ hbuilt
      simpa [SV.den] using this
    · cases hb
  · cases hb
theorem part_den {P : Program} (ρ : Env Pl) {t : Nat} {cs : List SV} {off : Nat} {v : SV} (h : partX P t cs off = some v) (w : World) : (part t (SV.dens ρ cs).toArray off).run P w = .ok (SV.den ρ v) w := by
  unfold partX at h
  split at h
  · rename_i n ha hn
    cases h
    simp only [part, Sem.run_bind, run_isAgg ha, Result.andThen_ok, if_true, run_sizeOf hn, Sem.run_pure, SV.den, cut_den]
  · rename_i n ha hn
    simp only [part, Sem.run_bind, run_isAgg ha, Result.andThen_ok, Bool.false_eq_true, if_false]
    have : (SV.dens ρ cs)[off]? = some (SV.den ρ v) := by rw [dens_map, List.getElem?_map, h]; rfl
    simp [this]
  · cases h
theorem zeros_list (z : List Value) : ∀ n : Nat, (List.range (n * z.length)).map (fun i => z.toArray[i % z.toArray.size]!) = (List.replicate n z).flatten
  | 0 => by simp
  | n + 1 => by
    rw [List.replicate_succ', List.flatten_append, ← zeros_list z n, Nat.succ_mul, List.range_add, List.map_append]
    congr 1
    simp only [List.flatten_cons, List.flatten_nil, List.append_nil, List.map_map]
    apply List.ext_getElem
    · simp
    · intro i h1 h2
      simp only [List.getElem_map, List.getElem_range, Function.comp, List.size_toArray, Nat.mul_add_mod_self_right]
      rw [Nat.mod_eq_of_lt h2]
      simp [h2]
theorem zeros_arr (z : List Value) (n : Nat) : (Array.range (n * z.length)).map (fun i => z.toArray[i % z.toArray.size]!) = (List.replicate n z).flatten.toArray := by
  rw [← zeros_list]
  apply Array.ext'
  simp
theorem dens_rep (ρ : Env Pl) (z : List SV) (n : Nat) : SV.dens ρ (List.replicate n z).flatten = (List.replicate n (SV.dens ρ z)).flatten := by
  simp only [dens_map, List.map_flatten, List.map_replicate]
end Go.Sx

namespace Go.Sx
open Go
variable {Pl : Type}

theorem add_at (g off n : Nat) : (⟨g, off, none⟩ : Addr).add n = ⟨g, off + n, none⟩ := by
  unfold Addr.add; split
  · rename_i h; rw [h]; rfl
  · rfl
theorem optE_val {s : String} {o : Option SV} {c : List BE} {v : SV} (h : optE s o = .val c v) : o = some v := by
  cases o <;> simp_all [optE]
theorem optN_val {s : String} {o : Option (List BE × SV)} {c : List BE} {v : SV} (h : optN s o = .val c v) : o = some (c, v) := by
  cases o with
  | none => simp [optN] at h
  | some x =>
    obtain ⟨a, b⟩ := x
    simp only [optN, Eff.val.injEq] at h
    rw [h.1, h.2]
theorem map_eval {a : Act} {xs : Array Operand} {vs : List Value} (h : xs.toList.map a.eval = vs) : xs.map a.eval = vs.toArray := by
  rw [← h]
  simp only [← Array.toList_map]

theorem min_run {P : Program} {ρ : Env Pl} {args : List SV} {v : SV} {ts : Array Nat} {t : Nat} {w : World} (h : minX args = some v) : (Builtin.min_ ts t (SV.dens ρ args).toArray).run P w = .ok (SV.den ρ v) w := by
  unfold minX at h
  split at h
  · split at h
    · cases h
      simp [Builtin.min_, SV.dens, SV.den, Builtin.min2, mk2_den ρ (fun x y => if y < x then y else x) IE.mn (fun _ _ => rfl)]
    · cases h
  · cases h
theorem max_run {P : Program} {ρ : Env Pl} {args : List SV} {v : SV} {ts : Array Nat} {t : Nat} {w : World} (h : maxX args = some v) : (Builtin.max_ ts t (SV.dens ρ args).toArray).run P w = .ok (SV.den ρ v) w := by
  unfold maxX at h
  split at h
  · split at h
    · cases h
      simp [Builtin.max_, SV.dens, SV.den, Builtin.max2, mk2_den ρ (fun x y => if x < y then y else x) IE.mx (fun _ _ => rfl)]
    · cases h
  · cases h
theorem len_run {P : Program} {ρ : Env Pl} {args : List SV} {v : SV} {ts : Array Nat} {t : Nat} {w : World} (h : lenX P ts args = some v) : (Builtin.len_ ts t (SV.dens ρ args).toArray).run P w = .ok (SV.den ρ v) w := by
  unfold lenX at h
  split at h
  · cases h
  · rename_i t' ht
    split at h <;> first
      | (cases h; done)
      | skip
    all_goals
      rename_i hu
      cases h
      simp only [SV.dens, List.toArray, Builtin.len_, ht]
      simp [SV.den, run_underlying hu, goInt, IE.den]

/-- an operation that looks at no memory yields its value in whatever world. -/
theorem take_run {P : Program} {ρ : Env Pl} {st : St} {a : Act} (h : TSat ρ st a) {o : Oper} {c : List BE} {v : SV} (ht : isTake o = true) (hv : opx P st o = .val c v) (hc : ∀ x ∈ c, x.den ρ = true) (w : World) :
    (execOp a.eval o).run P w = .ok (.value (SV.den ρ v)) w := by
  obtain ⟨dst, op, type, pos, after, guard⟩ := o
  cases op <;> first
    | (simp [isTake] at ht; done)
    | skip
  all_goals simp only [opx] at hv
  case move x => simp [execOp, ev_den h (optE_val hv)]
  case assign x => simp [execOp, ev_den h (optE_val hv)]
  case pick b x y =>
    split at hv
    · rename_i b' x' y' hb hx hy
      have e : (asBool (a.eval b)).run P w = .ok (b'.den ρ) w := by rw [ev_den h hb]; simp [SV.den, asBool]
      split at hv
      · rename_i hk
        cases hv
        simp [execOp, e, known_den h.asm hk, ev_den h hx]
      · rename_i hk
        cases hv
        simp [execOp, e, known_den h.asm hk, ev_den h hy]
      · cases hv
    · cases hv
  case build t parts => simp [execOp, build_den h (optE_val hv) w]
  case nilCheck x =>
    split at hv <;> first
      | (cases hv; done)
      | skip
    all_goals
      rename_i hx
      cases hv
      simp only [execOp, ev_den h hx, SV.den]
      first
        | rfl
        | (have hb := hc _ (List.mem_singleton_self _)
           simp only [BE.den, Bool.not_eq_true'] at hb
           rw [if_neg (by rw [hb]; exact Bool.false_ne_true)]
           rfl)
  case binOp op T x y T' =>
    split at hv
    · rename_i x' y' hx hy
      have e := bin2_den h.asm (w := w) (optN_val hv) hc
      simp only [execOp, ev_den h hx, ev_den h hy, Sem.run_bind] at e ⊢
      simp only [e]
      rfl
    · cases hv
  case unOp op T x =>
    split at hv
    · rename_i b hx
      cases hv
      simp [execOp, ev_den h hx, SV.den, Op.unary, mk_den h.asm, BE.den]
    · rename_i k e hx
      cases hv
      simp [execOp, ev_den h hx, SV.den, Op.unary, Op.intArith, mk1_den, mk2_den ρ _ IE.sub (fun _ _ => rfl), IE.den]
    · cases hv
  case convert s d x =>
    split at hv
    · rename_i d' k k' e hs hd hx
      cases hv
      simp only [execOp, ev_den h hx, SV.den, Sem.run_bind, convert, run_underlying hd, run_underlying hs, Result.andThen_ok]
      simp [Conv.intToInt, mk1_den]
    · cases hv
  case makeInterface T x =>
    split at hv
    · cases hv
    · rename_i d v' hne hd hx
      cases hv
      simp only [execOp, ev_den h hx, SV.den, Sem.run_bind, Instr.makeInterface, run_underlying hd, Result.andThen_ok]
      simp
    · cases hv
  case makeFunc f x y =>
    split at hv
    · rename_i x' y' hx hy
      cases hv
      simp [execOp, Instr.makeFunc, SV.den, map_eval (evs_den h hx), map_eval (evs_den h hy)]
    · cases hv
  case fieldAddr T x f =>
    split at hv
    · rename_i fs b off hs hx
      split at hv
      · rename_i fl hf
        split at hv
        · rename_i n hn
          split at hv
          · cases hv
          · rename_i hn0
            cases hv
            simp [execOp, ev_den h hx, SV.den, Instr.fieldAt, run_underlying (structX_un hs), hf, Instr.sureAddr, fieldPlace, run_sizeOf hn, hn0, add_at]
        · cases hv
      · cases hv
    · cases hv
  case field T x f =>
    split at hv
    · rename_i fs cs hs hx
      split at hv
      · rename_i fl hf
        have := part_den ρ (optE_val hv) w
        simp [execOp, ev_den h hx, SV.den, Instr.field, run_underlying (structX_un hs), hf, asAgg, this]
      · cases hv
    · cases hv
  case extract x i =>
    split at hv
    · rename_i cs hx
      have e := optE_val hv
      have : (SV.dens ρ cs)[i]? = some (SV.den ρ v) := by rw [dens_map, List.getElem?_map, e]; rfl
      simp [execOp, ev_den h hx, SV.den, Instr.extract, this]
    · cases hv
  case indexAddr T x ix =>
    split at hv
    · rename_i y k e hx hix
      split at hv
      · rename_i el hu
        split at hv
        · rename_i n hn
          cases hv
          have h1 := hc _ (List.mem_cons_self ..)
          have h2 := hc _ (List.mem_cons_of_mem _ (List.mem_cons_self ..))
          have h3 := hc _ (List.mem_cons_of_mem _ (List.mem_cons_of_mem _ (List.mem_cons_self ..)))
          simp only [BE.den, IE.den] at h1 h2 h3
          have h1 := of_decide_eq_true h1
          have h2 := of_decide_eq_true h2
          obtain ⟨ad, had⟩ := Option.isSome_iff_exists.1 h3
          simp [execOp, ev_den h hx, ev_den h hix, SV.den, Instr.indexAt, asIntOf, run_underlying hu, had, h1, h2, run_sizeOf hn]
        · cases hv
      · cases hv
    · rename_i b off k i hx hix
      split at hv
      · rename_i len el hu
        split at hv
        · rename_i n hn
          split at hv
          · rename_i hlt
            cases hv
            have h2 : ((i : Nat) : Int) < (len : Int) := by omega
            simp [execOp, ev_den h hx, ev_den h hix, SV.den, IE.den, Instr.indexAt, asIntOf, run_underlying hu, Instr.sureAddr, hlt, run_sizeOf hn, add_at]
          · cases hv
        · cases hv
      · cases hv
    · cases hv
  case call c' =>
    simp only [callX] at hv
    split at hv
    · cases hv
    · rename_i args hargs
      have ha := map_eval (evs_den h hargs)
      obtain ⟨callee, cargs, ats⟩ := c'
      cases callee with
      | value f => simp [isTake] at ht
      | invoke r n => simp [isTake] at ht
      | builtin b =>
        cases b <;> first
          | (simp [isTake] at ht; done)
          | skip
        all_goals
          have e := optE_val hv
          simp only [execOp, resolve, pure_bind, invoke, builtin, ha]
        · simp [len_run e]
        · simp [max_run e]
        · simp [min_run e]
end Go.Sx

namespace Go.Sx
open Go
abbrev VBlk := Nat × Nat × List Value
/-- what payloads say of memory: what they hold, blocks of their own, blocks that nobody writes. -/
structure Feel (Pl : Type) where
  holds : Pl → Value → World → Prop
  foot : Pl → Value → Nat → Prop
  sh : Pl → Value → Nat → Prop
variable {Pl : Type} {J : Feel Pl}
/-- two that do not hurt one another. -/
def SepJ (J : Feel Pl) (p : Pl) (v : Value) (q : Pl) (u : Value) : Prop := ∀ i, (J.foot p v i → ¬ J.foot q u i ∧ ¬ J.sh q u i) ∧ (J.foot q u i → ¬ J.sh p v i)
theorem SepJ.symm {p q : Pl} {v u : Value} (h : SepJ J p v q u) : SepJ J q u p v := fun i => ⟨fun hq => ⟨fun hp => ((h i).1 hp).1 hq, (h i).2 hq⟩, fun hp => ((h i).1 hp).2⟩

/-- blocks, and what is held, by values. -/
structure VSat (J : Feel Pl) (h : List VBlk) (r : List (Pl × Value × Bool)) (w : World) : Prop where
  blk : ∀ b ∈ h, w.heap[b.1]? = some (.cells b.2.2.toArray b.2.1 (0, 0))
  dist : h.Pairwise (fun a b => a.1 ≠ b.1)
  res : ∀ e ∈ r, J.holds e.1 e.2.1 w
  apart : ∀ e ∈ r, ∀ b ∈ h, ¬ (J.foot e.1 e.2.1 b.1 ∨ J.sh e.1 e.2.1 b.1)
  sep : r.Pairwise (fun a b => SepJ J a.1 a.2.1 b.1 b.2.1)
  per : ∀ e ∈ r, e.2.2 = false → ∀ i, ¬ J.foot e.1 e.2.1 i
def footV (J : Feel Pl) (h : List VBlk) (r : List (Pl × Value × Bool)) (i : Nat) : Prop := (∃ b ∈ h, b.1 = i) ∨ ∃ e ∈ r, J.foot e.1 e.2.1 i
def shV (J : Feel Pl) (r : List (Pl × Value × Bool)) (i : Nat) : Prop := ∃ e ∈ r, J.sh e.1 e.2.1 i
/-- one is the other, told otherwise, or less of it. -/
structure Turn (J : Feel Pl) (h : List VBlk) (r : List (Pl × Value × Bool)) (h' : List VBlk) (r' : List (Pl × Value × Bool)) : Prop where
  sat : ∀ w, VSat J h r w → VSat J h' r' w
  foot : ∀ i, footV J h' r' i → footV J h r i
  sh : ∀ i, shV J r' i → shV J r i ∨ footV J h r i
/-- a payload without blocks of its own, of no feet. -/
theorem Turn.adds {p : Pl} {v : Value} {o : Bool} {h : List VBlk} {r : List (Pl × Value × Bool)} (hp : ∀ w, J.holds p v w) (hf : ∀ i, ¬ J.foot p v i) (hs : ∀ i, ¬ J.sh p v i) : Turn J h r h ((p, v, o) :: r) := by
  refine ⟨fun w H => ⟨H.blk, H.dist, fun e he => ?_, fun e he b hb => ?_, List.pairwise_cons.2 ⟨fun e he i => ⟨fun h => absurd h (hf i), fun _ => hs i⟩, H.sep⟩, fun e he => ?_⟩, fun i hi => ?_, fun i hi => ?_⟩
  · rcases List.mem_cons.1 he with rfl | he
    · exact hp w
    · exact H.res e he
  · rcases List.mem_cons.1 he with rfl | he
    · exact fun h => h.elim (hf _) (hs _)
    · exact H.apart e he b hb
  · rcases List.mem_cons.1 he with rfl | he
    · exact fun _ => hf
    · exact H.per e he
  · rcases hi with hi | ⟨e, he, hi⟩
    · exact .inl hi
    · rcases List.mem_cons.1 he with rfl | he
      · exact absurd hi (hf i)
      · exact .inr ⟨e, he, hi⟩
  · obtain ⟨e, he, hi⟩ := hi
    rcases List.mem_cons.1 he with rfl | he
    · exact absurd hi (hs i)
    · exact .inl ⟨e, he, hi⟩
/-- the first one is told otherwise. -/
theorem Turn.first {p q : Pl} {v : Value} {o o' : Bool} {h : List VBlk} {r : List (Pl × Value × Bool)} (hp : ∀ w, J.holds p v w → J.holds q v w) (hf : ∀ i, J.foot q v i → J.foot p v i) (hs : ∀ i, J.sh q v i → J.sh p v i ∨ J.foot p v i)
    (hper : o' = false → ∀ i, ¬ J.foot q v i) : Turn J h ((p, v, o) :: r) h ((q, v, o') :: r) := by
  refine ⟨fun w H => ⟨H.blk, H.dist, fun e he => ?_, fun e he b hb => ?_, ?_, fun e he => ?_⟩, fun i hi => ?_, fun i hi => ?_⟩
  · rcases List.mem_cons.1 he with rfl | he
    · exact hp w (H.res _ (List.mem_cons_self ..))
    · exact H.res e (List.mem_cons_of_mem _ he)
  · rcases List.mem_cons.1 he with rfl | he
    · have := H.apart _ (List.mem_cons_self ..) b hb
      exact fun h => this (h.elim (fun h => .inl (hf _ h)) fun h => (hs _ h).symm)
    · exact H.apart e (List.mem_cons_of_mem _ he) b hb
  · have hs' := List.pairwise_cons.1 H.sep
    refine List.pairwise_cons.2 ⟨fun e he i => ?_, hs'.2⟩
    have h1 := hs'.1 e he i
    exact ⟨fun h => h1.1 (hf i h), fun h h' => (hs i h').elim (fun h' => h1.2 h h') fun h' => (h1.1 h').1 h⟩
  · rcases List.mem_cons.1 he with rfl | he
    · exact hper
    · exact H.per e (List.mem_cons_of_mem _ he)
  · rcases hi with hi | ⟨e, he, hi⟩
    · exact .inl hi
    · rcases List.mem_cons.1 he with rfl | he
      · exact .inr ⟨_, List.mem_cons_self .., hf i hi⟩
      · exact .inr ⟨e, List.mem_cons_of_mem _ he, hi⟩
  · obtain ⟨e, he, hi⟩ := hi
    rcases List.mem_cons.1 he with rfl | he
    · exact (hs i hi).imp (fun h => ⟨_, List.mem_cons_self .., h⟩) fun h => .inr ⟨_, List.mem_cons_self .., h⟩
    · exact .inl ⟨e, List.mem_cons_of_mem _ he, hi⟩
end Go.Sx

namespace Go.Sx
open Go
variable {Pl : Type}

/-- what payloads say of memory: of blocks of their own, and of blocks that nobody writes. -/
structure Interp (Pl : Type) extends Feel Pl where
  stable : ∀ {p : Pl} {v : Value} {w w' : World}, holds p v w → (∀ i, foot p v i ∨ sh p v i → w'.heap[i]? = w.heap[i]?) → holds p v w'
  lt : ∀ {p : Pl} {v : Value} {w : World} {i : Nat}, holds p v w → foot p v i ∨ sh p v i → i < w.heap.size
  fs : ∀ {p : Pl} {v : Value} {w : World} {i : Nat}, holds p v w → foot p v i → ¬ sh p v i
  row0 : Nat → Nat → Pl
  ir0 : Pl
  non : Pl
  frz : Pl → Pl
  comp : Nat → Nat → List Value → List (Pl × Value × Bool) → Pl
  row0_turn : ∀ {T s : Nat}, 0 < s → ∀ {h : List VBlk} {r : List (Pl × Value × Bool)}, Turn toFeel h r h ((row0 T s, .slice none 0 0, true) :: r)
  ir0_turn : ∀ {h : List VBlk} {r : List (Pl × Value × Bool)}, Turn toFeel h r h ((ir0, .slice none 0 0, false) :: r)
  non_turn : ∀ {v : Value} {h : List VBlk} {r : List (Pl × Value × Bool)}, Turn toFeel h r h ((non, v, true) :: r)
  frz_turn : ∀ {p : Pl} {v : Value} {o : Bool} {h : List VBlk} {r : List (Pl × Value × Bool)}, Turn toFeel h ((p, v, o) :: r) h ((frz p, v, false) :: r)
  opens : ∀ {g T : Nat} {cs : List Value} {s : List (Pl × Value × Bool)} {o : Bool} {h : List VBlk} {r : List (Pl × Value × Bool)}, Turn toFeel h ((comp g T cs s, .pointer (some ⟨g, 0, none⟩), o) :: r) ((g, T, cs) :: h) (s ++ r)
  closes : ∀ {g T : Nat} {cs : List Value} {s : List (Pl × Value × Bool)} {h : List VBlk} {r : List (Pl × Value × Bool)}, Turn toFeel ((g, T, cs) :: h) (s ++ r) h ((comp g T cs s, .pointer (some ⟨g, 0, none⟩), true) :: r)
/-- two that do not hurt one another. -/
def Sep (I : Interp Pl) (p : Pl) (v : Value) (q : Pl) (u : Value) : Prop := SepJ I.toFeel p v q u
theorem Sep.symm {I : Interp Pl} {p q : Pl} {v u : Value} (h : Sep I p v q u) : Sep I q u p v := SepJ.symm h

/-- all blocks but those of F are as they were. -/
structure Fr (F : Nat → Prop) (w w' : World) : Prop where
  os : w'.os = w.os
  tape : w'.tape = w.tape
  out : w'.output = w.output
  size : w.heap.size ≤ w'.heap.size
  same : ∀ i, i < w.heap.size → ¬ F i → w'.heap[i]? = w.heap[i]?
theorem Fr.refl (F : Nat → Prop) (w : World) : Fr F w w := ⟨rfl, rfl, rfl, Nat.le_refl _, fun _ _ _ => rfl⟩

/-- where a call may write, and what it may share. -/
structure Foot where
  own : Nat → Prop
  sh : Nat → Prop

structure HSat (I : Interp Pl) (F : Foot) (w0 : World) (ρ : Env Pl) (h : List Blk) (r : List Res) (w : World) : Prop where
  blk : ∀ b ∈ h, w.heap[ρ.n b.x]? = some (.cells (SV.dens ρ b.cs).toArray b.T (0, 0))
  dist : h.Pairwise (fun a b => ρ.n a.x ≠ ρ.n b.x)
  res : ∀ e ∈ r, I.holds (ρ.p e.p) (SV.den ρ e.key) w
  apart : ∀ e ∈ r, ∀ b ∈ h, ¬ (I.foot (ρ.p e.p) (SV.den ρ e.key) (ρ.n b.x) ∨ I.sh (ρ.p e.p) (SV.den ρ e.key) (ρ.n b.x))
  sep : r.Pairwise (fun a b => Sep I (ρ.p a.p) (SV.den ρ a.key) (ρ.p b.p) (SV.den ρ b.key))
  per : ∀ e ∈ r, e.own = false → ∀ i, ¬ I.foot (ρ.p e.p) (SV.den ρ e.key) i
  mine : ∀ b ∈ h, F.own (ρ.n b.x) ∨ w0.heap.size ≤ ρ.n b.x
  mineR : ∀ e ∈ r, ∀ i, I.foot (ρ.p e.p) (SV.den ρ e.key) i → F.own i ∨ w0.heap.size ≤ i
  shar : ∀ e ∈ r, ∀ i, I.sh (ρ.p e.p) (SV.den ρ e.key) i → F.own i ∨ F.sh i ∨ w0.heap.size ≤ i
  frame : Fr F.own w0 w

theorem cell_at {w : World} {g T : Nat} {vs : List Value} {fr : Nat × Nat} (h : w.heap[g]? = some (.cells vs.toArray T fr)) (off : Nat) : w.cell? ⟨g, off, none⟩ = vs[off]? := by
  simp [World.cell?, h]
theorem frozen_at {w : World} {g T : Nat} {vs : Array Value} (h : w.heap[g]? = some (.cells vs T (0, 0))) (off : Nat) : w.frozen? ⟨g, off, none⟩ = false := by
  simp [World.frozen?, h]
theorem loadCellsFrom_run {P : Program} {w : World} {g T : Nat} {vs : List Value} {fr : Nat × Nat} (h : w.heap[g]? = some (.cells vs.toArray T fr)) (off : Nat) :
    ∀ (n i : Nat) (acc : Array Value), off + i + n ≤ vs.length → (loadCellsFrom ⟨g, off, none⟩ i n acc).run P w = .ok (acc ++ ((vs.drop (off + i)).take n).toArray) w
  | 0, i, acc, _ => by simp [loadCellsFrom]
  | n + 1, i, acc, hn => by
    have hlt : off + i < vs.length := by omega
    have e : vs.drop (off + i) = vs[off + i] :: vs.drop (off + (i + 1)) := by rw [List.drop_eq_getElem_cons hlt]; rfl
    simp only [loadCellsFrom, Sem.run_bind, run_load, add_at, cell_at h, List.getElem?_eq_getElem hlt, Result.andThen_ok]
    rw [loadCellsFrom_run h off n (i + 1) _ (by omega), e]
    simp
theorem loadVar_run {P : Program} (ρ : Env Pl) {w : World} {g T : Nat} {cs : List SV} (h : w.heap[g]? = some (.cells (SV.dens ρ cs).toArray T (0, 0))) {t off : Nat} {v : SV}
    (hv : (match isAggB P t, sizeX P t with
      | some true, some n => if off + n ≤ cs.length then some (.agg (cutX cs off n)) else none
      | some false, some _ => cs[off]?
      | _, _ => none) = some v) : (loadVar t ⟨g, off, none⟩).run P w = .ok (SV.den ρ v) w := by
  split at hv
  · rename_i n ha hn
    split at hv
    · rename_i hle
      cases hv
      simp only [loadVar, Sem.run_bind, run_isAgg ha, Result.andThen_ok, if_true, run_sizeOf hn, loadCells]
      rw [loadCellsFrom_run h off n 0 #[] (by rw [dens_len]; omega)]
      simp [SV.den, cutX, dens_map, List.map_take, List.map_drop]
    · cases hv
  · rename_i n ha hn
    have : (SV.dens ρ cs)[off]? = some (SV.den ρ v) := by rw [dens_map, List.getElem?_map, hv]; rfl
    simp only [loadVar, Sem.run_bind, run_isAgg ha, Result.andThen_ok, Bool.false_eq_true, if_false, run_load, cell_at h, this]
  · cases hv

theorem findBlk_mem : ∀ {h : List Blk} {x : Nat} {b : Blk}, findBlk h x = some b → b ∈ h ∧ b.x = x
  | [], x, b, h => by simp [findBlk] at h
  | c :: l, x, b, h => by
    unfold findBlk at h
    split at h
    · rename_i e
      cases h
      exact ⟨List.mem_cons_self .., e⟩
    · exact ⟨List.mem_cons_of_mem _ (findBlk_mem h).1, (findBlk_mem h).2⟩

theorem loadX_run {I : Interp Pl} {F : Foot} {w0 : World} {P : Program} {ρ : Env Pl} {st : St} {w : World} (h : HSat I F w0 ρ st.heap st.res w) {t : Nat} {a v : SV} (hv : loadX P st t a = some v) :
    (Instr.loadAt t (SV.den ρ a)).run P w = .ok (SV.den ρ v) w := by
  unfold loadX at hv
  split at hv
  · rename_i x off
    split at hv
    · rename_i b hb
      obtain ⟨hm, hx⟩ := findBlk_mem hb
      have hblk := h.blk b hm
      rw [hx] at hblk
      simp only [Instr.loadAt, SV.den, Sem.run_bind, Instr.sureAddr, Sem.run_pure, Result.andThen_ok]
      exact loadVar_run ρ hblk hv
    · cases hv
  · cases hv

theorem storeCells_run {P : Program} {g T : Nat} : ∀ (vs : List Value) (i off : Nat) (w : World) (cur : List Value), w.heap[g]? = some (.cells cur.toArray T (0, 0)) → (∀ v ∈ vs, v.oneCell' = true) → off + i + vs.length ≤ cur.length →
    (storeCells ⟨g, off, none⟩ vs i).run P w = .ok () (if vs = [] then w else w.setRow g (putV cur (off + i) vs).toArray)
  | [], i, off, w, cur, _, _, _ => by simp [storeCells]
  | v :: vs, i, off, w, cur, h, h1, hn => by
    simp only [List.length_cons] at hn
    have hlt : off + i < cur.length := by omega
    have hv := h1 v (List.mem_cons_self ..)
    have e1 : (store ((⟨g, off, none⟩ : Addr).add i) v).run P w = .ok () (w.setRow g (cur.toArray.setIfInBounds (off + i) v)) := by
      rw [run_store P w _ v .plain hv, add_at, cell_at h, List.getElem?_eq_getElem hlt, frozen_at h]
      simp only [Bool.false_eq_true, if_false]
      rw [setCell_eq_setRow w g (off + i) cur.toArray T (0, 0) v h]
    have e2 : cur.toArray.setIfInBounds (off + i) v = (cur.set (off + i) v).toArray := by simp
    rw [e2] at e1
    have h2 : (w.setRow g (cur.set (off + i) v).toArray).heap[g]? = some (.cells (cur.set (off + i) v).toArray T (0, 0)) := setRow_heap w g _ _ T (0, 0) h
    have ih := storeCells_run (P := P) vs (i + 1) off (w.setRow g (cur.set (off + i) v).toArray) (cur.set (off + i) v) h2 (fun u hu => h1 u (List.mem_cons_of_mem _ hu)) (by simp; omega)
    simp only [storeCells, Sem.run_bind, e1, Result.andThen_ok, ih, reduceCtorEq, if_false]
    rw [putV_cons, setRow_setRow]
    congr 1
    split
    · rename_i hnil
      subst hnil
      rw [putV_nil]
    · rfl
theorem setBlk_mem : ∀ {h : List Blk} {x : Nat} {cs : List SV} {c : Blk} (f : Nat → Nat), h.Pairwise (fun a b => f a.x ≠ f b.x) → c ∈ setBlk h x cs → (c.x = x ∧ c.cs = cs ∧ ∃ b, findBlk h x = some b ∧ c.T = b.T) ∨ (c ∈ h ∧ f c.x ≠ f x) ∨ (c ∈ h ∧ findBlk h x = none)
  | [], x, cs, c, f, _, hm => by simp [setBlk] at hm
  | b :: l, x, cs, c, f, hp, hm => by
    rw [List.pairwise_cons] at hp
    unfold setBlk at hm
    split at hm
    · rename_i e
      rcases List.mem_cons.1 hm with rfl | hm
      · exact .inl ⟨e, rfl, b, by simp [findBlk, e], rfl⟩
      · refine .inr (.inl ⟨List.mem_cons_of_mem _ hm, ?_⟩)
        have := hp.1 c hm
        rw [e] at this
        exact fun h => this h.symm
    · rename_i e
      rcases List.mem_cons.1 hm with rfl | hm
      · by_cases hf : f c.x = f x
        · refine .inr (.inr ⟨List.mem_cons_self .., ?_⟩)
          unfold findBlk
          rw [if_neg e]
          cases hl : findBlk l x with
          | none => rfl
          | some d =>
            obtain ⟨hd, hx⟩ := findBlk_mem hl
            exact absurd (hf.trans (by rw [hx])) (hp.1 d hd)
        · exact .inr (.inl ⟨List.mem_cons_self .., hf⟩)
      · rcases setBlk_mem f hp.2 hm with ⟨h1, h2, d, hd, h3⟩ | ⟨h1, h2⟩ | ⟨h1, h2⟩
        · exact .inl ⟨h1, h2, d, by unfold findBlk; rw [if_neg e]; exact hd, h3⟩
        · exact .inr (.inl ⟨List.mem_cons_of_mem _ h1, h2⟩)
        · exact .inr (.inr ⟨List.mem_cons_of_mem _ h1, by unfold findBlk; rw [if_neg e]; exact h2⟩)
theorem setBlk_x : ∀ (h : List Blk) (x : Nat) (cs : List SV), (setBlk h x cs).map (·.x) = h.map (·.x)
  | [], _, _ => rfl
  | b :: l, x, cs => by
    unfold setBlk
    split
    · simp
    · simp [setBlk_x l x cs]
theorem setBlk_dist {h : List Blk} {x : Nat} {cs : List SV} {f : Nat → Nat} (hp : h.Pairwise (fun a b => f a.x ≠ f b.x)) : (setBlk h x cs).Pairwise (fun a b => f a.x ≠ f b.x) := by
  have e : ∀ l : List Blk, l.Pairwise (fun a b => f a.x ≠ f b.x) ↔ (l.map (·.x)).Pairwise (fun a b => f a ≠ f b) := fun l => by rw [List.pairwise_map]
  rw [e, setBlk_x, ← e]
  exact hp
theorem mem_setBlk_x {h : List Blk} {x : Nat} {cs : List SV} {c : Blk} (hm : c ∈ setBlk h x cs) : ∃ b ∈ h, b.x = c.x := by
  have : c.x ∈ (setBlk h x cs).map (·.x) := List.mem_map_of_mem hm
  rw [setBlk_x] at this
  obtain ⟨b, hb, he⟩ := List.mem_map.1 this
  exact ⟨b, hb, he⟩

/-- a store into a block of one's own. -/
theorem HSat.set {I : Interp Pl} {F : Foot} {w0 : World} {ρ : Env Pl} {h : List Blk} {r : List Res} {w : World} (H : HSat I F w0 ρ h r w) {x : Nat} {b : Blk} (hb : findBlk h x = some b) (cs : List SV) :
    HSat I F w0 ρ (setBlk h x cs) r (w.setRow (ρ.n x) (SV.dens ρ cs).toArray) := by
  obtain ⟨hm, hx⟩ := findBlk_mem hb
  have hblk := H.blk b hm
  rw [hx] at hblk
  refine ⟨fun c hc => ?_, setBlk_dist H.dist, fun e he => ?_, fun e he c hc => ?_, H.sep, H.per, fun c hc => ?_, H.mineR, H.shar, ?_⟩
  · rcases setBlk_mem ρ.n H.dist hc with ⟨h1, h2, d, hd, h3⟩ | ⟨h1, h2⟩ | ⟨h1, h2⟩
    · rw [hb] at hd
      cases hd
      rw [h1, h2, h3]
      exact setRow_heap w _ _ _ _ _ hblk
    · rw [setRow_other w _ _ _ h2]
      exact H.blk c h1
    · rw [hb] at h2
      cases h2
  · refine I.stable (H.res e he) fun i hi => setRow_other w _ _ _ ?_
    rintro rfl
    have := H.apart e he b hm
    rw [hx] at this
    exact this hi
  · obtain ⟨d, hd, hxd⟩ := mem_setBlk_x hc
    have := H.apart e he d hd
    rwa [hxd] at this
  · obtain ⟨d, hd, hxd⟩ := mem_setBlk_x hc
    have := H.mine d hd
    rwa [hxd] at this
  · refine ⟨H.frame.os, H.frame.tape, H.frame.out, by simpa using H.frame.size, fun i hi hn => ?_⟩
    rw [setRow_other w _ _ _ ?_]
    · exact H.frame.same i hi hn
    · rintro rfl
      rcases H.mine b hm with hF | hge
      · rw [hx] at hF
        exact hn hF
      · rw [hx] at hge
        omega
theorem storeX_run {I : Interp Pl} {F : Foot} {w0 : World} {P : Program} {ρ : Env Pl} {st : St} {w : World} (H : HSat I F w0 ρ st.heap st.res w) {t : Nat} {a v : SV} {h' : List Blk} (hv : storeX P st t a v = some h') :
    ∃ w', (Instr.storeAt t (SV.den ρ a) (SV.den ρ v)).run P w = .ok () w' ∧ HSat I F w0 ρ h' st.res w' := by
  unfold storeX at hv
  split at hv
  · rename_i x off
    split at hv
    · rename_i b hb
      split at hv
      · rename_i n hn
        split at hv
        · rename_i hc
          obtain ⟨h1, h2, h3⟩ := hc
          cases hv
          obtain ⟨hm, hx⟩ := findBlk_mem hb
          have hblk := H.blk b hm
          rw [hx] at hblk
          refine ⟨w.setRow (ρ.n x) (SV.dens ρ (putX b.cs off v.cells)).toArray, ?_, H.set hb _⟩
          simp only [Instr.storeAt, SV.den, Sem.run_bind, Instr.sureAddr, Sem.run_pure, Result.andThen_ok, storeVar, run_sizeOf hn, cells_den]
          rw [if_neg (by simp [dens_len, h1])]
          have h4 : ∀ u ∈ SV.dens ρ v.cells, u.oneCell' = true := fun u hu => by
            rw [dens_map] at hu
            obtain ⟨y, hy, rfl⟩ := List.mem_map.1 hu
            exact flat_den ρ y (List.all_eq_true.1 h3 y hy)
          rw [storeCells_run (P := P) (SV.dens ρ v.cells) 0 off w (SV.dens ρ b.cs) hblk h4 (by rw [dens_len, dens_len]; omega)]
          congr 1
          rw [put_den]
          split
          · rename_i hnil
            rw [hnil, putV_nil]
            unfold World.setRow
            cases w
            rename_i heap tape drawn os output
            simp only at hblk ⊢
            congr 1
            apply Array.ext
            · simp
            · intro k hk1 hk2
              rw [Array.getElem_modify]
              split
              · rename_i e
                subst e
                have := (Array.getElem?_eq_some_iff.1 hblk).2
                rw [this]
              · rfl
          · rfl
        · cases hv
      · cases hv
    · cases hv
  · cases hv
end Go.Sx

namespace Go.Sx
open Go
variable {Pl : Type}

theorem HSat.ext {I : Interp Pl} {F : Foot} {w0 : World} {ρ ρ' : Env Pl} {h : List Blk} {r : List Res} {w : World} {t : Nat} (H : HSat I F w0 ρ h r w) (he : Ext t ρ ρ')
    (hh : ∀ b ∈ h, b.x < t ∧ SV.los t b.cs = true) (hr : ∀ e ∈ r, e.p < t ∧ SV.lo t e.key = true) : HSat I F w0 ρ' h r w := by
  have e1 : ∀ b ∈ h, ρ'.n b.x = ρ.n b.x := fun b hb => he.n _ (hh b hb).1
  have e2 : ∀ e ∈ r, ρ'.p e.p = ρ.p e.p := fun e hm => he.p _ (hr e hm).1
  have e3 : ∀ e ∈ r, SV.den ρ' e.key = SV.den ρ e.key := fun e hm => SV.ext he _ (hr e hm).2
  refine ⟨fun b hb => ?_, ?_, fun e hm => ?_, fun e hm b hb => ?_, ?_, fun e hm => ?_, fun b hb => ?_, fun e hm => ?_, fun e hm => ?_, H.frame⟩
  · rw [e1 b hb, SV.exts he _ (hh b hb).2]; exact H.blk b hb
  · refine List.Pairwise.imp_of_mem (fun {a b} ha hb hab => ?_) H.dist
    rw [e1 a ha, e1 b hb]; exact hab
  · rw [e2 e hm, e3 e hm]; exact H.res e hm
  · rw [e2 e hm, e3 e hm, e1 b hb]; exact H.apart e hm b hb
  · refine List.Pairwise.imp_of_mem (fun {a b} ha hb hab => ?_) H.sep
    rw [e2 a ha, e3 a ha, e2 b hb, e3 b hb]; exact hab
  · rw [e2 e hm, e3 e hm]; exact H.per e hm
  · rw [e1 b hb]; exact H.mine b hb
  · rw [e2 e hm, e3 e hm]; exact H.mineR e hm
  · rw [e2 e hm, e3 e hm]; exact H.shar e hm

theorem AsmOk.ext {ρ ρ' : Env Pl} {asm : List (BE × Bool)} {t : Nat} (h : AsmOk ρ asm) (he : Ext t ρ ρ') (hl : ∀ x ∈ asm, x.1.lo t = true) : AsmOk ρ' asm :=
  fun x hx => (BE.ext he x.1 (hl x hx)).trans (h x hx)
theorem look_mem {α : Type} : ∀ {l : List (Nat × α)} {t : Nat} {v : α}, look l t = some v → (t, v) ∈ l
  | [], _, _, h => by simp [look] at h
  | (k, u) :: l, t, v, h => by
    unfold look at h
    split at h
    · rename_i e
      cases h
      rw [e]
      exact List.mem_cons_self ..
    · exact List.mem_cons_of_mem _ (look_mem h)
theorem TSat.ext {ρ ρ' : Env Pl} {st : St} {a : Act} {t : Nat} (h : TSat ρ st a) (he : Ext t ρ ρ') (ht : ∀ x ∈ st.tmps, SV.lo t x.2 = true) (hl : ∀ x ∈ st.asm, x.1.lo t = true) : TSat ρ' st a :=
  ⟨h.size, h.defers, fun u v hv => by rw [SV.ext he v (ht (u, v) (look_mem hv))]; exact h.tmps u v hv, h.asm.ext he hl⟩

structure Lo (st : St) : Prop where
  tmps : ∀ x ∈ st.tmps, SV.lo st.ctr x.2 = true
  heap : ∀ b ∈ st.heap, b.x < st.ctr ∧ SV.los st.ctr b.cs = true
  res : ∀ e ∈ st.res, e.p < st.ctr ∧ SV.lo st.ctr e.key = true
  asm : ∀ x ∈ st.asm, x.1.lo st.ctr = true
theorem lo_spec {st : St} (h : st.lo = true) : Lo st := by
  simp only [St.lo, Bool.and_eq_true, List.all_eq_true, decide_eq_true_eq] at h
  exact ⟨h.1.1.1, h.1.1.2, h.1.2, h.2⟩

def Out.setN (ρ : Env Pl) (t n : Nat) : Env Pl := { ρ with n := fun x => if x = t then n else ρ.n x }
theorem Ext.setN (ρ : Env Pl) (t n : Nat) : Ext t ρ (ρ.setN t n) :=
  ⟨fun _ _ => rfl, fun _ _ => rfl, fun x hx => if_neg (by omega), fun _ _ => rfl, fun _ _ => rfl⟩

/-- a new block. -/
theorem HSat.new {I : Interp Pl} {F : Foot} {w0 : World} {ρ : Env Pl} {h : List Blk} {r : List Res} {w : World} {t : Nat} (H : HSat I F w0 ρ h r w)
    (hh : ∀ b ∈ h, b.x < t ∧ SV.los t b.cs = true) (hr : ∀ e ∈ r, e.p < t ∧ SV.lo t e.key = true) (T : Nat) (cs : List SV) :
    HSat I F w0 (ρ.setN t w.heap.size) ({ x := t, T := T, cs := cs } :: h) r { w with heap := w.heap.push (.cells (SV.dens (ρ.setN t w.heap.size) cs).toArray T (0, 0)) } := by
  have H' := H.ext (Ext.setN ρ t w.heap.size) hh hr
  generalize hρ : ρ.setN t w.heap.size = ρ' at *
  have hn : ρ'.n t = w.heap.size := by rw [← hρ]; simp [Out.setN]
  have hlt : ∀ b ∈ h, ρ'.n b.x < w.heap.size := fun b hb => (Array.getElem?_eq_some_iff.1 (H'.blk b hb)).1
  have hold : ∀ i, i < w.heap.size → ∀ o, (w.heap.push o)[i]? = w.heap[i]? := fun i hi o => by rw [Array.getElem?_push, if_neg (by omega)]
  refine ⟨fun b hb => ?_, ?_, fun e he => ?_, fun e he b hb => ?_, H'.sep, H'.per, fun b hb => ?_, H'.mineR, H'.shar, ?_⟩
  · rcases List.mem_cons.1 hb with rfl | hb
    · simp [hn]
    · simp only
      rw [hold _ (hlt b hb)]
      exact H'.blk b hb
  · rw [List.pairwise_cons]
    exact ⟨fun b hb => by have := hlt b hb; simp only [hn]; omega, H'.dist⟩
  · exact I.stable (H'.res e he) fun i hi => hold i (I.lt (H'.res e he) hi) _
  · rcases List.mem_cons.1 hb with rfl | hb
    · intro hf
      have := I.lt (H'.res e he) hf
      simp only [hn] at this
      omega
    · exact H'.apart e he b hb
  · rcases List.mem_cons.1 hb with rfl | hb
    · exact .inr (by simp only [hn]; exact H'.frame.size)
    · exact H'.mine b hb
  · exact ⟨H'.frame.os, H'.frame.tape, H'.frame.out, by simp only [Array.size_push]; have := H'.frame.size; omega, fun i hi hF => by
      simp only
      rw [hold i (Nat.lt_of_lt_of_le hi H'.frame.size)]
      exact H'.frame.same i hi hF⟩

theorem HSat.drawn {I : Interp Pl} {F : Foot} {w0 : World} {ρ : Env Pl} {h : List Blk} {r : List Res} {w : World} (H : HSat I F w0 ρ h r w) (n : Nat) : HSat I F w0 ρ h r { w with drawn := n } :=
  ⟨H.blk, H.dist, fun e he => I.stable (H.res e he) fun _ _ => rfl, H.apart, H.sep, H.per, H.mine, H.mineR, H.shar, ⟨H.frame.os, H.frame.tape, H.frame.out, H.frame.size, H.frame.same⟩⟩

theorem HSat.perm {I : Interp Pl} {F : Foot} {w0 : World} {ρ : Env Pl} {h : List Blk} {r r' : List Res} {w : World} (H : HSat I F w0 ρ h r w) (hp : r.Perm r') : HSat I F w0 ρ h r' w :=
  ⟨H.blk, H.dist, fun e he => H.res e (hp.mem_iff.2 he), fun e he => H.apart e (hp.mem_iff.2 he), hp.pairwise H.sep fun hab => hab.symm, fun e he => H.per e (hp.mem_iff.2 he), H.mine, fun e he => H.mineR e (hp.mem_iff.2 he), fun e he => H.shar e (hp.mem_iff.2 he), H.frame⟩

/-! contracts -/
def At.val (o : Out Pl) : At → Value
  | .int k j => .int k (o.i j)
  | .bool j => .bool (o.b j)
  | .ptr j => .pointer (some ⟨o.n j, 0, none⟩)
  | .slc j => .slice (o.s j).1 (o.s j).2.1 (o.s j).2.2
  | .nilptr => .pointer none
  | .mptr jb j => .pointer (if o.b jb then none else some ⟨o.n j, 0, none⟩)
def Rt.val (o : Out Pl) : Rt → Value
  | .one a => a.val o
  | .tup l => .tuple (l.map (At.val o)).toArray
  | .agg l => .agg (l.map (At.val o)).toArray
  | .iface T a => .iface T (a.val o)
theorem At.den (ρ : Env Pl) (t : Nat) (o : Out Pl) (a : At) : SV.den (ρ.put t o) (a.sv t) = a.val o := by
  cases a <;> simp [At.sv, SV.den, At.val, IE.den, BE.den, Out.put]
theorem Rt.den (ρ : Env Pl) (t : Nat) (o : Out Pl) (a : Rt) : SV.den (ρ.put t o) (a.sv t) = a.val o := by
  cases a <;> simp [Rt.sv, SV.den, Rt.val, dens_map, At.den, Function.comp_def]

structure Row (Pl : Type) extends RowX where
  pre : List Value → List Pl → Prop
  rel : List Value → List Pl → Out Pl → Prop

/-- an argument; from 100 on a part of one. -/
def argV (vs : List Value) (ai : Nat) : Value :=
  if ai < 100 then vs.getD ai undef else match vs.getD (ai / 100 - 1) undef with
    | .agg cs => cs.toList.getD (ai % 100) undef
    | _ => undef
theorem argV0 (vs : List Value) : argV vs 0 = vs.getD 0 undef := rfl
theorem argV1 (vs : List Value) : argV vs 1 = vs.getD 1 undef := rfl
/-- what holds behind a contract: of what turned, and of what is new. -/
def afterL (o : Out Pl) (vs : List Value) : List (Nat × Nat × Md) → Nat → List (Pl × Value × Bool)
  | [], _ => []
  | (ai, _, up) :: l, j => if up = .tu then (o.p j, argV vs ai, true) :: afterL o vs l (j + 1) else afterL o vs l (j + 1)
def newsL (o : Out Pl) : List (Nat × Nat × At × Bool) → List (Pl × Value × Bool)
  | [] => []
  | (_, pj, key, own) :: l => (o.p pj, key.val o, own) :: newsL o l
/-- the feet of what turns. -/
def upFoot (I : Interp Pl) (vs : List Value) : List (Nat × Nat × Md) → List Pl → Nat → Prop
  | (ai, _, up) :: l, p :: ps => fun i => (up ≠ .rd ∧ I.foot p (argV vs ai) i) ∨ upFoot I vs l ps i
  | _, _ => fun _ => False
def needSh (I : Interp Pl) (vs : List Value) : List (Nat × Nat × Md) → List Pl → Nat → Prop
  | (ai, _, _) :: l, p :: ps => fun i => I.sh p (argV vs ai) i ∨ needSh I vs l ps i
  | _, _ => fun _ => False
/-- what it needs, one by one. -/
def pairL (vs : List Value) : List (Nat × Nat × Md) → List Pl → List (Pl × Value)
  | (ai, _, _) :: l, p :: ps => (p, argV vs ai) :: pairL vs l ps
  | _, _ => []
/-- of what it does not turn nobody has blocks of his own. -/
def perL (I : Interp Pl) (vs : List Value) : List (Nat × Nat × Md) → List Pl → Prop
  | (ai, _, up) :: l, p :: ps => (up = .rd → ∀ i, ¬ I.foot p (argV vs ai) i) ∧ perL I vs l ps
  | _, _ => True
def needL (I : Interp Pl) (vs : List Value) (w : World) : List (Nat × Nat × Md) → List Pl → Prop
  | [], [] => True
  | (ai, _, _) :: l, p :: ps => I.holds p (argV vs ai) w ∧ needL I vs w l ps
  | _, _ => False

def elemAddr (s : Nat) : List Value → Value
  | .slice a _ _ :: .int _ i :: _ => .pointer (a.map fun a => a.add (i.toNat * s))
  | _ => .pointer none
/-- what is called, or done with rows, ends so. -/
def Does (P : Program) : Fk → List Value → World → (Ending → World → Prop) → Prop
  | .fn f, vs, w, R => Calls P f vs.toArray w R
  | .ld T s, vs, w, R => ∃ v w', (Instr.loadAt T (elemAddr s vs)).run P w = .ok v w' ∧ R (.returned v) w'
  | .st T s, vs, w, R => ∃ w', (Instr.storeAt T (elemAddr s vs) (vs.getD 2 undef)).run P w = .ok () w' ∧ R (.returned undef) w'
  | .bs T _ n, vs, w, R => R (.returned (.slice (some ⟨w.heap.size, 0, none⟩) n n)) { w with heap := w.heap.push (.cells vs.toArray T (0, 0)) }
  | .mk t, vs, w, R => ∃ v w', (Instr.makeSlice t (vs.getD 0 undef) (vs.getD 1 undef)).run P w = .ok v w' ∧ R (.returned v) w'
  | .sl t lo hi, vs, w, R => ∃ v w', (Instr.sliceAt t (vs.getD 0 undef) (if lo then vs[1]? else none) (if hi then vs[if lo then 2 else 1]? else none) none).run P w = .ok v w' ∧ R (.returned v) w'
  | .nilr _ _, _, w, R => R (.returned (.slice none 0 0)) w
  | .app t u, vs, w, R => ∀ ty, ∃ v w', (Builtin.append_ #[t, u] ty vs.toArray).run P w = .ok v w' ∧ R (.returned v) w'
theorem Does.mono {P : Program} {k : Fk} {vs : List Value} {w : World} {R R' : Ending → World → Prop} (h : Does P k vs w R) (hr : ∀ e w', R e w' → R' e w') : Does P k vs w R' := by
  cases k <;> simp only [Does] at h ⊢
  case fn => exact h.mono hr
  case ld => obtain ⟨v, w', h1, h2⟩ := h; exact ⟨v, w', h1, hr _ _ h2⟩
  case st => obtain ⟨w', h1, h2⟩ := h; exact ⟨w', h1, hr _ _ h2⟩
  case bs => exact hr _ _ h
  case mk => obtain ⟨v, w', h1, h2⟩ := h; exact ⟨v, w', h1, hr _ _ h2⟩
  case sl => obtain ⟨v, w', h1, h2⟩ := h; exact ⟨v, w', h1, hr _ _ h2⟩
  case nilr => exact hr _ _ h
  case app => intro ty; obtain ⟨v, w', h1, h2⟩ := h ty; exact ⟨v, w', h1, hr _ _ h2⟩

def RowOK (P : Program) (I : Interp Pl) (row : Row Pl) : Prop := ∀ (vs : List Value) (ps : List Pl) (w : World), needL I vs w row.needs ps → (pairL vs row.needs ps).Pairwise (fun a b => Sep I a.1 a.2 b.1 b.2) → perL I vs row.needs ps → row.pre vs ps →
  Does P row.f vs w fun e w' => ∃ o : Out Pl, row.rel vs ps o ∧ e = .returned (row.ret.val o) ∧
    (∀ x ∈ newsL o row.news ++ afterL o vs row.needs 0, I.holds x.1 x.2.1 w' ∧ (∀ i, I.foot x.1 x.2.1 i → upFoot I vs row.needs ps i ∨ w.heap.size ≤ i) ∧
      (∀ i, I.sh x.1 x.2.1 i → upFoot I vs row.needs ps i ∨ needSh I vs row.needs ps i ∨ w.heap.size ≤ i) ∧ (x.2.2 = false → ∀ i, ¬ I.foot x.1 x.2.1 i)) ∧
    (newsL o row.news ++ afterL o vs row.needs 0).Pairwise (fun a b => Sep I a.1 a.2.1 b.1 b.2.1) ∧
    Fr (upFoot I vs row.needs ps) w w'
end Go.Sx

namespace Go.Sx
open Go
variable {Pl : Type}

mutual
theorem beq_eq : ∀ a b : SV, SV.beq a b = true → a = b
  | .bool a, b, h => by cases b <;> simp_all [SV.beq]
  | .int k a, b, h => by cases b <;> simp_all [SV.beq]
  | .ptr x o, b, h => by cases b <;> simp_all [SV.beq]
  | .nilptr, b, h => by cases b <;> simp_all [SV.beq]
  | .slc x, b, h => by cases b <;> simp_all [SV.beq]
  | .nilslc, b, h => by cases b <;> simp_all [SV.beq]
  | .row x o n c, b, h => by cases b <;> simp_all [SV.beq]
  | .func f a c, b, h => by
    cases b <;> simp only [SV.beq, Bool.false_eq_true, Bool.and_eq_true, decide_eq_true_eq] at h
    rw [h.1.1, beqs_eq _ _ h.1.2, beqs_eq _ _ h.2]
  | .nilFunc, b, h => by cases b <;> simp_all [SV.beq]
  | .iface t v, b, h => by
    cases b <;> simp only [SV.beq, Bool.false_eq_true, Bool.and_eq_true, beq_iff_eq] at h
    rw [h.1, beq_eq _ _ h.2]
  | .nilIface, b, h => by cases b <;> simp_all [SV.beq]
  | .agg a, b, h => by
    cases b <;> simp only [SV.beq, Bool.false_eq_true] at h
    rw [beqs_eq _ _ h]
  | .tup a, b, h => by
    cases b <;> simp only [SV.beq, Bool.false_eq_true] at h
    rw [beqs_eq _ _ h]
  | .elem x e s, b, h => by cases b <;> simp_all [SV.beq]
  | .mptr c x, b, h => by cases b <;> simp_all [SV.beq]
theorem beqs_eq : ∀ a b : List SV, SV.beqs a b = true → a = b
  | [], b, h => by cases b <;> simp_all [SV.beqs]
  | x :: l, b, h => by
    cases b <;> simp only [SV.beqs, Bool.false_eq_true, Bool.and_eq_true] at h
    rw [beq_eq _ _ h.1, beqs_eq _ _ h.2]
end

theorem pull_spec : ∀ {rs : List Res} {key : SV} {tag : Nat} {r : Res} {rest : List Res}, pullRes rs key tag = some (r, rest) → rs.Perm (r :: rest) ∧ r.key = key
  | [], _, _, _, _, h => by simp [pullRes] at h
  | x :: l, key, tag, r, rest, h => by
    unfold pullRes at h
    split at h
    · rename_i hc
      cases h
      rw [Bool.and_eq_true] at hc
      exact ⟨List.Perm.refl _, beq_eq _ _ hc.2⟩
    · split at h
      · rename_i y m hp
        cases h
        obtain ⟨h1, h2⟩ := pull_spec hp
        exact ⟨(List.Perm.cons x h1).trans (List.Perm.swap r x m), h2⟩
      · cases h

theorem getD_den {ρ : Env Pl} {args : List SV} {ai : Nat} {key : SV} (h : argX args ai = some key) : argV (SV.dens ρ args) ai = SV.den ρ key := by
  have k : ∀ {args : List SV} {i : Nat} {key : SV}, args[i]? = some key → (SV.dens ρ args).getD i undef = SV.den ρ key := fun h => by
    rw [dens_map, List.getD_eq_getElem?_getD, List.getElem?_map, h]; rfl
  unfold argX at h
  unfold argV
  split at h
  · rename_i hlt
    rw [if_pos hlt]
    exact k h
  · rename_i hlt
    rw [if_neg hlt]
    split at h
    · rename_i cs hcs
      rw [k hcs]
      simp only [SV.den]
      exact k h
    · cases h

/-- what a contract finds, and turns. -/
structure NeedSpec (I : Interp Pl) (ρ : Env Pl) (w : World) (args : List SV) (t : Nat) (o : Out Pl) (needs : List (Nat × Nat × Md)) (j : Nat) (rs : List Res) (ps : List Nat) (us rest old : List Res) : Prop where
  perm : rs.Perm (old ++ rest)
  per : perL I (SV.dens ρ args) needs (ps.map ρ.p)
  need : needL I (SV.dens ρ args) w needs (ps.map ρ.p)
  sep : (pairL (SV.dens ρ args) needs (ps.map ρ.p)).Pairwise (fun a b => Sep I a.1 a.2 b.1 b.2)
  pair : ∀ x ∈ pairL (SV.dens ρ args) needs (ps.map ρ.p), ∃ e ∈ rs, x = (ρ.p e.p, SV.den ρ e.key)
  foot : ∀ i, upFoot I (SV.dens ρ args) needs (ps.map ρ.p) i → ∃ e ∈ old, I.foot (ρ.p e.p) (SV.den ρ e.key) i
  shf : ∀ i, needSh I (SV.dens ρ args) needs (ps.map ρ.p) i → ∃ e ∈ rs, I.sh (ρ.p e.p) (SV.den ρ e.key) i
  after : us.map (fun e => ((ρ.put t o).p e.p, SV.den (ρ.put t o) e.key, e.own)) = afterL o (SV.dens ρ args) needs j
theorem need_spec {I : Interp Pl} {ρ : Env Pl} {w : World} {args : List SV} {t : Nat} (o : Out Pl) : ∀ (needs : List (Nat × Nat × Md)) (j : Nat) (rs : List Res) (ps : List Nat) (us rest : List Res),
    needX args t needs j rs = some (ps, us, rest) → (∀ e ∈ rs, I.holds (ρ.p e.p) (SV.den ρ e.key) w) → (∀ e ∈ rs, SV.lo t e.key = true) →
    rs.Pairwise (fun a b => Sep I (ρ.p a.p) (SV.den ρ a.key) (ρ.p b.p) (SV.den ρ b.key)) → (∀ e ∈ rs, e.own = false → ∀ i, ¬ I.foot (ρ.p e.p) (SV.den ρ e.key) i) → ∃ old, NeedSpec I ρ w args t o needs j rs ps us rest old
  | [], j, rs, ps, us, rest, h, _, _, _, _ => by
    simp only [needX, Option.some.injEq, Prod.mk.injEq] at h
    obtain ⟨rfl, rfl, rfl⟩ := h
    exact ⟨[], List.Perm.refl _, by simp [perL], by simp [needL], by simp [pairL], by simp [pairL], by simp [upFoot], by simp [needSh], by simp [afterL]⟩
  | (ai, tag, up) :: l, j, rs, ps, us, rest, h, hh, hl, hs, hper => by
    unfold needX at h
    split at h
    · cases h
    · rename_i key hkey
      split at h
      · cases h
      · rename_i r rest' hp
        obtain ⟨hperm, rfl⟩ := pull_spec hp
        have hr : r ∈ rs := hperm.mem_iff.2 (List.mem_cons_self ..)
        have hg := getD_den (ρ := ρ) hkey
        have hsub : ∀ e ∈ rest', e ∈ rs := fun e he => hperm.mem_iff.2 (List.mem_cons_of_mem _ he)
        have hs' := (hperm.pairwise hs fun hab => hab.symm)
        rw [List.pairwise_cons] at hs'
        have fin : ∀ (rs2 : List Res) (hmem : ∀ e ∈ rs2, e ∈ rs) {ps' : List Nat} {us' rest2 old : List Res}, NeedSpec I ρ w args t o l (j + 1) rs2 ps' us' rest2 old → (∀ e ∈ rs2, Sep I (ρ.p r.p) (SV.den ρ r.key) (ρ.p e.p) (SV.den ρ e.key)) →
            needL I (SV.dens ρ args) w ((ai, tag, up) :: l) ((r.p :: ps').map ρ.p) ∧ (pairL (SV.dens ρ args) ((ai, tag, up) :: l) ((r.p :: ps').map ρ.p)).Pairwise (fun a b => Sep I a.1 a.2 b.1 b.2) ∧
            (∀ x ∈ pairL (SV.dens ρ args) ((ai, tag, up) :: l) ((r.p :: ps').map ρ.p), ∃ e ∈ rs, x = (ρ.p e.p, SV.den ρ e.key)) ∧ (∀ i, needSh I (SV.dens ρ args) ((ai, tag, up) :: l) ((r.p :: ps').map ρ.p) i → ∃ e ∈ rs, I.sh (ρ.p e.p) (SV.den ρ e.key) i) := by
          intro rs2 hmem ps' us' rest2 old S hsep
          refine ⟨?_, ?_, ?_, ?_⟩
          · simp only [List.map_cons, needL]
            exact ⟨by rw [hg]; exact hh r hr, S.need⟩
          · simp only [List.map_cons, pairL, List.pairwise_cons]
            refine ⟨fun x hx => ?_, S.sep⟩
            obtain ⟨e, he, rfl⟩ := S.pair x hx
            rw [hg]
            exact hsep e he
          · intro x hx
            simp only [List.map_cons, pairL] at hx
            rcases List.mem_cons.1 hx with rfl | hx
            · exact ⟨r, hr, by rw [hg]⟩
            · obtain ⟨e, he, h2⟩ := S.pair x hx
              exact ⟨e, hmem e he, h2⟩
          · intro i hi
            simp only [List.map_cons, needSh] at hi
            rcases hi with hi | hi
            · rw [hg] at hi
              exact ⟨r, hr, hi⟩
            · obtain ⟨e, he, hf⟩ := S.shf i hi
              exact ⟨e, hmem e he, hf⟩
        split at h
        · rename_i hup
          split at h
          · cases h
          · rename_i hown
            split at h
            · rename_i ps' us' rs' hn
              cases h
              obtain ⟨old, S⟩ := need_spec o l (j + 1) rs _ _ _ hn hh hl hs hper
              have hnf : ∀ i, ¬ I.foot (ρ.p r.p) (SV.den ρ r.key) i := hper r hr (by simpa using hown)
              obtain ⟨f1, f2, f3, f4⟩ := fin rs (fun e he => he) S (fun e he => by
                rcases List.mem_cons.1 (hperm.mem_iff.1 he) with rfl | he'
                · exact fun i => ⟨fun hf => absurd hf (hnf i), fun hf => absurd hf (hnf i)⟩
                · exact hs'.1 e he')
              refine ⟨old, S.perm, ?_, f1, f2, f3, ?_, f4, ?_⟩
              · simp only [List.map_cons, perL]
                exact ⟨fun _ => by rw [hg]; exact hnf, S.per⟩
              · intro i hi
                simp only [List.map_cons, upFoot] at hi
                rcases hi with ⟨hx, _⟩ | hi
                · exact absurd hup hx
                · exact S.foot i hi
              · simp only [afterL, hup, reduceCtorEq, if_false]
                exact S.after
            · cases h
        · rename_i hup
          split at h
          · rename_i hown
            split at h
            · rename_i ps' us' rs' hn
              cases h
              obtain ⟨old, S⟩ := need_spec o l (j + 1) rest' _ _ _ hn (fun e he => hh e (hsub e he)) (fun e he => hl e (hsub e he)) hs'.2 (fun e he => hper e (hsub e he))
              obtain ⟨f1, f2, f3, f4⟩ := fin rest' hsub S hs'.1
              refine ⟨r :: old, hperm.trans (List.Perm.cons r S.perm), ?_, f1, f2, f3, ?_, f4, ?_⟩
              · simp only [List.map_cons, perL]
                exact ⟨fun e => absurd e hup, S.per⟩
              · intro i hi
                simp only [List.map_cons, upFoot] at hi
                rcases hi with ⟨_, hi⟩ | hi
                · rw [hg] at hi
                  exact ⟨r, List.mem_cons_self .., hi⟩
                · obtain ⟨e, he, hf⟩ := S.foot i hi
                  exact ⟨e, List.mem_cons_of_mem _ he, hf⟩
              · by_cases hu : up = .tu
                · simp only [List.map_cons, afterL, hu, if_true]
                  rw [S.after, hg, SV.ext (Ext.put ρ t o) _ (hl r hr), hown]
                  simp [Out.put]
                · simp only [afterL, hu, if_false]
                  exact S.after
            · cases h
          · cases h
theorem news_map (ρ : Env Pl) (t : Nat) (o : Out Pl) : ∀ l : List (Nat × Nat × At × Bool), (newsX t l).map (fun e => ((ρ.put t o).p e.p, SV.den (ρ.put t o) e.key, e.own)) = newsL o l
  | [] => rfl
  | (tag, pj, key, own) :: l => by
    simp only [newsX, newsL, List.map_cons, news_map ρ t o l, At.den]
    simp [Out.put]

theorem pairwise_mem {α : Type} {R : α → α → Prop} (hs : ∀ x y, R x y → R y x) {l : List α} (h : l.Pairwise R) {a b : α} (ha : a ∈ l) (hb : b ∈ l) (hne : a ≠ b) : R a b := by
  induction h with
  | nil => cases ha
  | cons h1 _ ih =>
    rcases List.mem_cons.1 ha with rfl | ha
    · rcases List.mem_cons.1 hb with rfl | hb
      · exact absurd rfl hne
      · exact h1 b hb
    · rcases List.mem_cons.1 hb with rfl | hb
      · exact hs _ _ (h1 a (by assumption))
      · exact ih ha hb
theorem apply_sound {P : Program} {I : Interp Pl} {F : Foot} {w0 : World} {ρ : Env Pl} {row : Row Pl} (hrow : RowOK P I row) {args : List SV} {st st' : St} {ps : List Nat} {v : SV} {w : World}
    (ha : row.toRowX.apply args st = some (ps, v, st')) (hlo : Lo st) (H : HSat I F w0 ρ st.heap st.res w) (hpre : row.pre (SV.dens ρ args) (ps.map ρ.p)) :
    Does P row.f (SV.dens ρ args) w fun e w' => ∃ o : Out Pl, row.rel (SV.dens ρ args) (ps.map ρ.p) o ∧ e = .returned (SV.den (ρ.put st.ctr o) v) ∧ HSat I F w0 (ρ.put st.ctr o) st'.heap st'.res w' := by
  unfold RowX.apply at ha
  split at ha
  · rename_i ps' us rest hn
    simp only [Option.some.injEq, Prod.mk.injEq] at ha
    obtain ⟨rfl, rfl, rfl⟩ := ha
    obtain ⟨old0, S0⟩ := need_spec (I := I) (w := w) (ρ.put 0 ρ) row.needs 0 st.res _ _ _ hn H.res (fun e he => (hlo.res e he).2) H.sep H.per
    refine (hrow (SV.dens ρ args) (ps'.map ρ.p) w S0.need S0.sep S0.per hpre).mono ?_
    rintro e w' ⟨o, hrel, he, hafter, hsep, hfr⟩
    obtain ⟨old, S⟩ := need_spec (I := I) (w := w) o row.needs 0 st.res _ _ _ hn H.res (fun e he => (hlo.res e he).2) H.sep H.per
    refine ⟨o, hrel, by rw [he, Rt.den], ?_⟩
    have HP := H.perm S.perm
    have hlo' : ∀ e ∈ old ++ rest, e.p < st.ctr ∧ SV.lo st.ctr e.key = true := fun e he => hlo.res e (S.perm.mem_iff.2 he)
    have HE := HP.ext (Ext.put ρ st.ctr o) hlo.heap hlo'
    have hfoot : ∀ e ∈ old ++ rest, ∀ i, (I.foot ((ρ.put st.ctr o).p e.p) (SV.den (ρ.put st.ctr o) e.key) i ↔ I.foot (ρ.p e.p) (SV.den ρ e.key) i) ∧ (I.sh ((ρ.put st.ctr o).p e.p) (SV.den (ρ.put st.ctr o) e.key) i ↔ I.sh (ρ.p e.p) (SV.den ρ e.key) i) := fun e he i => by
      rw [(Ext.put ρ st.ctr o).p _ (hlo' e he).1, SV.ext (Ext.put ρ st.ctr o) _ (hlo' e he).2]
      exact ⟨Iff.rfl, Iff.rfl⟩
    generalize hρ : ρ.put st.ctr o = ρ' at *
    have hm : (newsX st.ctr row.news ++ us).map (fun e => (ρ'.p e.p, SV.den ρ' e.key, e.own)) = newsL o row.news ++ afterL o (SV.dens ρ args) row.needs 0 := by
      have := S.after
      rw [hρ] at this
      rw [List.map_append, this]
      have h2 := news_map ρ st.ctr o row.news
      rw [hρ] at h2
      rw [h2]
    have hnew : ∀ e ∈ newsX st.ctr row.news ++ us, I.holds (ρ'.p e.p) (SV.den ρ' e.key) w' ∧ (∀ i, I.foot (ρ'.p e.p) (SV.den ρ' e.key) i → (∃ c ∈ old, I.foot (ρ'.p c.p) (SV.den ρ' c.key) i) ∨ w.heap.size ≤ i) ∧
        (∀ i, I.sh (ρ'.p e.p) (SV.den ρ' e.key) i → (∃ c ∈ old, I.foot (ρ'.p c.p) (SV.den ρ' c.key) i) ∨ (∃ c ∈ old ++ rest, I.sh (ρ'.p c.p) (SV.den ρ' c.key) i) ∨ w.heap.size ≤ i) ∧ (e.own = false → ∀ i, ¬ I.foot (ρ'.p e.p) (SV.den ρ' e.key) i) := fun e he => by
      have hmem : (ρ'.p e.p, SV.den ρ' e.key, e.own) ∈ newsL o row.news ++ afterL o (SV.dens ρ args) row.needs 0 := by
        rw [← hm]; exact List.mem_map_of_mem he
      obtain ⟨h1, h2, h3, h4⟩ := hafter _ hmem
      refine ⟨h1, fun i hi => ?_, fun i hi => ?_, h4⟩
      · rcases h2 i hi with hu | hu
        · obtain ⟨c, hc, hf⟩ := S.foot i hu
          exact .inl ⟨c, hc, ((hfoot c (List.mem_append_left _ hc) i).1).2 hf⟩
        · exact .inr hu
      · rcases h3 i hi with hu | hu | hu
        · obtain ⟨c, hc, hf⟩ := S.foot i hu
          exact .inl ⟨c, hc, ((hfoot c (List.mem_append_left _ hc) i).1).2 hf⟩
        · obtain ⟨c, hc, hf⟩ := S.shf i hu
          have hc' := S.perm.mem_iff.1 hc
          exact .inr (.inl ⟨c, hc', ((hfoot c hc' i).2).2 hf⟩)
        · exact .inr (.inr hu)
    have hpair : (newsX st.ctr row.news ++ us).Pairwise (fun a b => Sep I (ρ'.p a.p) (SV.den ρ' a.key) (ρ'.p b.p) (SV.den ρ' b.key)) := by
      have := hsep
      rw [← hm, List.pairwise_map] at this
      exact this
    have hsepO := (List.pairwise_append.1 HE.sep)
    have hsame : ∀ i, i < w.heap.size → (∀ c ∈ old, ¬ I.foot (ρ'.p c.p) (SV.den ρ' c.key) i) → w'.heap[i]? = w.heap[i]? := fun i hi hn => hfr.same i hi fun hu => by
      obtain ⟨c, hc, hf⟩ := S.foot i hu
      exact hn c hc (((hfoot c (List.mem_append_left _ hc) i).1).2 hf)
    have hblt : ∀ b ∈ st.heap, ρ'.n b.x < w.heap.size := fun b hb => (Array.getElem?_eq_some_iff.1 (HE.blk b hb)).1
    have hrest : ∀ e ∈ rest, ∀ i, (I.foot (ρ'.p e.p) (SV.den ρ' e.key) i ∨ I.sh (ρ'.p e.p) (SV.den ρ' e.key) i) → ∀ c ∈ old, ¬ I.foot (ρ'.p c.p) (SV.den ρ' c.key) i := fun e he i hi c hc hf => by
      have := ((hsepO.2.2 c hc e he) i).1 hf
      rcases hi with hi | hi
      · exact this.1 hi
      · exact this.2 hi
    have hlt : ∀ e ∈ old ++ rest, ∀ i, (I.foot (ρ'.p e.p) (SV.den ρ' e.key) i ∨ I.sh (ρ'.p e.p) (SV.den ρ' e.key) i) → i < w.heap.size := fun e he i hi => I.lt (HE.res e he) hi
    simp only
    rw [← List.append_assoc]
    refine ⟨fun b hb => ?_, HE.dist, fun e he => ?_, fun e he b hb => ?_, ?_, fun e he => ?_, HE.mine, fun e he i hi => ?_, fun e he i hi => ?_, ?_⟩
    · rw [hsame _ (hblt b hb) fun c hc hf => HE.apart c (List.mem_append_left _ hc) b hb (.inl hf)]
      exact HE.blk b hb
    · rcases List.mem_append.1 he with he | he
      · exact (hnew e he).1
      · exact I.stable (HE.res e (List.mem_append_right _ he)) fun i hi => hsame i (hlt e (List.mem_append_right _ he) i hi) (hrest e he i hi)
    · rcases List.mem_append.1 he with he | he
      · rintro (hf | hf)
        · rcases (hnew e he).2.1 _ hf with ⟨c, hc, hfc⟩ | hge
          · exact HE.apart c (List.mem_append_left _ hc) b hb (.inl hfc)
          · have := hblt b hb
            omega
        · rcases (hnew e he).2.2.1 _ hf with ⟨c, hc, hfc⟩ | ⟨c, hc, hfc⟩ | hge
          · exact HE.apart c (List.mem_append_left _ hc) b hb (.inl hfc)
          · exact HE.apart c hc b hb (.inr hfc)
          · have := hblt b hb
            omega
      · exact HE.apart e (List.mem_append_right _ he) b hb
    · refine List.pairwise_append.2 ⟨hpair, hsepO.2.1, fun a ha b hb i => ⟨fun hi => ?_, fun hj hi => ?_⟩⟩
      · have key : ¬ (I.foot (ρ'.p b.p) (SV.den ρ' b.key) i ∨ I.sh (ρ'.p b.p) (SV.den ρ' b.key) i) := fun hj => by
          rcases (hnew a ha).2.1 i hi with ⟨c, hc, hfc⟩ | hge
          · exact hrest b hb i hj c hc hfc
          · have := hlt b (List.mem_append_right _ hb) i hj
            omega
        exact ⟨fun h => key (.inl h), fun h => key (.inr h)⟩
      · rcases (hnew a ha).2.2.1 i hi with ⟨c, hc, hfc⟩ | ⟨c, hc, hfc⟩ | hge
        · exact hrest b hb i (.inl hj) c hc hfc
        · rcases List.mem_append.1 hc with hc | hc
          · exact ((hsepO.2.2 c hc b hb) i).2 hj hfc
          · by_cases e : c = b
            · subst e
              exact I.fs (HE.res c (List.mem_append_right _ hb)) hj hfc
            · have hs2 := hsepO.2.1
              have : Sep I (ρ'.p c.p) (SV.den ρ' c.key) (ρ'.p b.p) (SV.den ρ' b.key) := pairwise_mem (fun x y h => Sep.symm h) hs2 hc hb e
              exact (this i).2 hj hfc
        · have := hlt b (List.mem_append_right _ hb) i (.inl hj)
          omega
    · rcases List.mem_append.1 he with he | he
      · exact (hnew e he).2.2.2
      · exact HE.per e (List.mem_append_right _ he)
    · rcases List.mem_append.1 he with he | he
      · rcases (hnew e he).2.1 i hi with ⟨c, hc, hfc⟩ | hge
        · exact HE.mineR c (List.mem_append_left _ hc) i hfc
        · exact .inr (Nat.le_trans HE.frame.size hge)
      · exact HE.mineR e (List.mem_append_right _ he) i hi
    · rcases List.mem_append.1 he with he | he
      · rcases (hnew e he).2.2.1 i hi with ⟨c, hc, hfc⟩ | ⟨c, hc, hfc⟩ | hge
        · exact (HE.mineR c (List.mem_append_left _ hc) i hfc).imp id .inr
        · exact HE.shar c hc i hfc
        · exact .inr (.inr (Nat.le_trans HE.frame.size hge))
      · exact HE.shar e (List.mem_append_right _ he) i hi
    · refine ⟨hfr.os.trans HE.frame.os, hfr.tape.trans HE.frame.tape, hfr.out.trans HE.frame.out, Nat.le_trans HE.frame.size hfr.size, fun i hi hF => ?_⟩
      rw [hsame i (Nat.lt_of_lt_of_le hi HE.frame.size) fun c hc hfc => ?_]
      · exact HE.frame.same i hi hF
      · rcases HE.mineR c (List.mem_append_left _ hc) i hfc with h | h
        · exact hF h
        · omega
  · cases ha
end Go.Sx

namespace Go.Sx
open Go
variable {Pl : Type}

/-- a loop, with what holds at its head, and what falls. -/
structure LoopS (Pl : Type) extends LoopX where
  inv : Env Pl → Out Pl → Prop
  mu : Env Pl → Out Pl → Nat
/-- where, for what, by which contracts. -/
structure Wd (Pl : Type) where
  C : Cfg
  I : Interp Pl
  F : Foot
  w0 : World
  R : List (Row Pl)
  LS : List (LoopS Pl)
  L : Env Pl → SV → List Blk → List Res → Prop
abbrev Nxt (Pl : Type) := Nat → List SV → List (Nat × Nat) → Env Pl → Prop
def Ex.up : Ex → Exit
  | .normal => .normal
  | .exit id => .exit id
  | .ret => .ret

section
variable (X : Wd Pl) (Nx : Nxt Pl)
end
theorem enterX_spec {P : Program} {f : Nat} (h : enterX P f = true) : ∃ fn, P.funcs[f]? = some fn ∧ (fn.name == "runtime.NumGoroutine") = false ∧ fn.body.isNone = false := by
  unfold enterX at h
  split at h
  · rename_i fn hf
    simp only [Bool.and_eq_true, Bool.not_eq_true'] at h
    exact ⟨fn, hf, h.1, by cases hb : fn.body <;> simp_all⟩
  · cases h
theorem callFunc_run {P : Program} {f : Nat} (h : enterX P f = true) (args : Array Value) (w : World) : (callFunc f args).run P w = .ok (.enter f args) w := by
  obtain ⟨fn, hf, h1, h2⟩ := enterX_spec h
  simp only [callFunc, Sem.run_bind, run_program, Result.andThen_ok, hf]
  rw [h1, h2]
  rfl
theorem callE_call {P : Program} {f : Nat} {g : Fk} {args args' : List SV} (h : callE P f args = .call g args') : enterX P f = true ∧ g = .fn f ∧ args' = args := by
  unfold callE at h
  split at h
  · rename_i he
    cases h
    exact ⟨he, rfl, rfl⟩
  · cases h
theorem methX_run {P : Program} {t : Nat} {name : String} {f : Nat} (h : methX P t name = some f) (n : Nat) (v : Value) (w : World) : (method (n + 1) t v name).run P w = .ok (f, v) w := by
  unfold methX at h
  split at h
  · rename_i i hi
    split at h
    · rename_i m hm
      split at h
      · rename_i hp
        split at h
        · rename_i g e hmf hu
          cases h
          have hp' : m.path.toList = [] := by simpa using hp
          simp only [method, Sem.run_bind, run_typeInfo hi, Result.andThen_ok, hm]
          rw [hp', hmf]
          simp only [follow, Sem.run_pure, Sem.run_bind, Result.andThen_ok, receiverAt, run_underlying hu, Place.get]
        · cases h
      · cases h
    · cases h
  · cases h
end Go.Sx

namespace Go.Sx
open Go
variable {Pl : Type}

theorem callX_val {P : Program} {st : St} {c : Call} {n : List BE} {v : SV} (h : callX P st c = .val n v) : ∃ b, c.callee = .builtin b ∧ (b = .min ∨ b = .max ∨ b = .len) := by
  unfold callX at h
  split at h
  · cases h
  · split at h
    · split at h
      · unfold callE at h; split at h <;> cases h
      · cases h
    · split at h
      · split at h
        · unfold callE at h; split at h <;> cases h
        · cases h
      · cases h
    · rename_i b hb
      split at h
      · exact ⟨_, hb, .inl rfl⟩
      · exact ⟨_, hb, .inr (.inl rfl)⟩
      · exact ⟨_, hb, .inr (.inr rfl)⟩
      · split at h <;> cases h
      · cases h
theorem opx_val_take {P : Program} {st : St} {o : Oper} {n : List BE} {v : SV} (h : opx P st o = .val n v) : isTake o = true ∨ ∃ t a, o.op = .load t a := by
  obtain ⟨dst, op, type, pos, after, guard⟩ := o
  cases op <;> first
    | exact .inl rfl
    | exact .inr ⟨_, _, rfl⟩
    | skip
  all_goals simp only [opx] at h
  case call c =>
    obtain ⟨b, hb, h3⟩ := callX_val h
    refine .inl ?_
    simp only [isTake, hb]
    rcases h3 with rfl | rfl | rfl <;> rfl
  all_goals first
    | (cases h; done)
    | ((repeat' split at h) <;> cases h)
theorem opx_val {I : Interp Pl} {F : Foot} {w0 : World} {P : Program} {ρ : Env Pl} {st : St} {a : Act} {w : World} (T : TSat ρ st a) (H : HSat I F w0 ρ st.heap st.res w) {o : Oper} {n : List BE} {v : SV} (h : opx P st o = .val n v) (hc : ∀ x ∈ n, x.den ρ = true) :
    (execOp a.eval o).run P w = .ok (.value (SV.den ρ v)) w := by
  rcases opx_val_take h with ht | ⟨t, x, ht⟩
  · exact take_run T ht h hc w
  · simp only [opx, ht] at h
    split at h
    · cases h
    · rename_i y hne hy
      have := loadX_run H (optE_val h)
      simp [execOp, ht, ev_den T hy, this]
    · cases h
theorem opx_mem {I : Interp Pl} {F : Foot} {w0 : World} {P : Program} {ρ : Env Pl} {st : St} {a : Act} {w : World} (T : TSat ρ st a) (H : HSat I F w0 ρ st.heap st.res w) {o : Oper} {h' : List Blk} (h : opx P st o = .mem h') :
    ∃ w', (execOp a.eval o).run P w = .ok .skip w' ∧ HSat I F w0 ρ h' st.res w' := by
  obtain ⟨dst, op, type, pos, after, guard⟩ := o
  cases op <;> simp only [opx] at h
  case store t x y =>
    split at h
    · cases h
    · rename_i x' y' hne hx hy
      split at h
      · rename_i g hg
        cases h
        obtain ⟨w', h1, h2⟩ := storeX_run H hg
        exact ⟨w', by simp [execOp, ev_den T hx, ev_den T hy, h1], h2⟩
      · cases h
    · cases h
  case call c =>
    simp only [callX, optE, callE] at h
    (repeat' split at h) <;> cases h
  all_goals first
    | (cases h; done)
    | ((try simp only [optE, optN] at h); (repeat' split at h) <;> cases h)
theorem opx_new {P : Program} {ρ : Env Pl} {st : St} {a : Act} (T : TSat ρ st a) {o : Oper} {t : Nat} {cs : List SV} (h : opx P st o = .new t cs) (w : World) :
    (execOp a.eval o).run P w = .ok (.value (.pointer (some ⟨w.heap.size, 0, none⟩))) { w with heap := w.heap.push (.cells (SV.dens ρ cs).toArray t (0, 0)) } := by
  obtain ⟨dst, op, type, pos, after, guard⟩ := o
  cases op <;> simp only [opx] at h
  case alloc t' =>
    split at h
    · rename_i v hv
      cases h
      obtain ⟨i, hi, hz⟩ := zeroX_den ρ hv
      simp [execOp, Instr.alloc, zeroValue, run_typeInfo hi, hz, newVar, newRow, cells_den]
    · cases h
  case box t' x =>
    split at h
    · rename_i v hv
      cases h
      simp [execOp, Instr.box, newVar, newRow, ev_den T hv, cells_den]
    · cases h
  case call c =>
    simp only [callX, optE, callE] at h
    (repeat' split at h) <;> cases h
  all_goals first
    | (cases h; done)
    | ((try simp only [optE, optN] at h); (repeat' split at h) <;> cases h)
theorem opx_call {P : Program} {ρ : Env Pl} {st : St} {a : Act} {w : World} {K : Act → World → Prop} {Q : Exit → Act → World → Prop} (T : TSat ρ st a) {o : Oper} {f : Fk} {args : List SV} (h : opx P st o = .call f args)
    (hd : Does P f (SV.dens ρ args) w fun e w' => match e with
      | .returned v => K (a.put o.dst v) w'
      | .panicked c => Q (.panic c) a w'
      | .outgrown => LetsOut Q) : o.wp P a w K Q := by
  obtain ⟨dst, op, type, pos, after, guard⟩ := o
  cases op <;> simp only [opx] at h
  case call c =>
    obtain ⟨callee, cargs, ats⟩ := c
    simp only [callX] at h
    split at h
    · cases h
    · rename_i as has
      have ha := map_eval (evs_den T has)
      split at h
      · rename_i f'
        split at h
        · rename_i g first cap hf
          obtain ⟨he, rfl, rfl⟩ := callE_call h
          have hr : (execOp a.eval { dst := dst, op := .call { callee := .value f', args := cargs, argTypes := ats }, type := type, pos := pos, after := after, guard := guard }).run P w = .ok (.enter g (SV.dens ρ (first ++ as ++ cap)).toArray) w := by
            simp only [execOp, resolve, Sem.run_bind, ev_den T hf, SV.den, Deferred.ofValue, Sem.run_pure, Result.andThen_ok, invoke, ha, callFunc_run he]
            simp [dens_app]
          unfold Oper.wp
          rw [hr]
          refine Calls.mono hd fun e w'' he => ?_
          cases e <;> exact he
        · cases h
      · rename_i r name
        split at h
        · rename_i t v hr
          split at h
          · rename_i g hg
            obtain ⟨he, rfl, rfl⟩ := callE_call h
            have hr : (execOp a.eval { dst := dst, op := .call { callee := .invoke r name, args := cargs, argTypes := ats }, type := type, pos := pos, after := after, guard := guard }).run P w = .ok (.enter g (SV.dens ρ (v :: as)).toArray) w := by
              simp only [execOp, resolve, Sem.run_bind, ev_den T hr, SV.den, Sem.run_pure, Result.andThen_ok, invoke, ha]
              have e1 : (#[Value.iface t (SV.den ρ v)] ++ (SV.dens ρ as).toArray)[0]? = some (Value.iface t (SV.den ρ v)) := by simp
              have e2 : (#[Value.iface t (SV.den ρ v)] ++ (SV.dens ρ as).toArray).extract 1 (#[Value.iface t (SV.den ρ v)] ++ (SV.dens ρ as).toArray).size = (SV.dens ρ as).toArray := by simp
              simp only [e1, callMethod, Sem.run_bind, run_program, Result.andThen_ok]
              rw [e2]
              have e3 : P.types.size + Made.depth = (P.types.size + (Made.depth - 1)) + 1 := rfl
              rw [e3, methX_run hg]
              simp only [Result.andThen_ok, callFunc_run he]
              simp [SV.dens]
            unfold Oper.wp
            rw [hr]
            refine Calls.mono hd fun e w'' he => ?_
            cases e <;> exact he
          · cases h
        · cases h
      · rename_i b
        split at h <;> first
          | (cases h; done)
          | (simp only [optE] at h; split at h <;> cases h; done)
          | skip
        split at h
        · rename_i t u x y hts
          cases h
          obtain ⟨v, w', h1, h2⟩ := hd type
          have e : ats = #[t, u] := by rw [← hts]
          have hr : (execOp a.eval { dst := dst, op := .call { callee := .builtin .append, args := cargs, argTypes := ats }, type := type, pos := pos, after := after, guard := guard }).run P w = .ok (.value v) w' := by
            simp only [execOp, resolve, pure_bind, invoke, builtin, ha, e]
            simp [h1]
          unfold Oper.wp
          rw [hr]
          exact h2
        · cases h
  case load t x =>
    split at h
    · rename_i y e s hx
      cases h
      obtain ⟨v, w', h1, h2⟩ := hd
      have hr : (execOp a.eval { dst := dst, op := .load t x, type := type, pos := pos, after := after, guard := guard }).run P w = .ok (.value v) w' := by
        simp only [SV.dens, SV.den, elemAddr] at h1
        simp [execOp, ev_den T hx, SV.den, h1]
      unfold Oper.wp
      rw [hr]
      exact h2
    · simp only [optE] at h
      split at h <;> cases h
    · cases h
  case store t x y =>
    split at h
    · rename_i z e s v hx hy
      cases h
      obtain ⟨w', h1, h2⟩ := hd
      have hr : (execOp a.eval { dst := dst, op := .store t x y, type := type, pos := pos, after := after, guard := guard }).run P w = .ok .skip w' := by
        simp only [SV.dens, SV.den, elemAddr] at h1
        simp only [List.getD_cons_succ, List.getD_cons_zero] at h1
        simp [execOp, ev_den T hx, ev_den T hy, SV.den, h1]
      unfold Oper.wp
      rw [hr]
      exact h2
    · split at h <;> cases h
    · cases h
  case buildSlice t len parts =>
    split at h
    · rename_i el hu
      split at h
      · rename_i n z ps hn hz hp
        split at h
        · rename_i hc
          split at h
          · rename_i cs hcs
            cases h
            obtain ⟨i, hi, hiz⟩ := zeroX_den ρ hz
            have hf := fill_den ρ _ (fun i => some (i * n, n)) (fun i x hx => by
              rw [List.getElem?_map] at hx
              obtain ⟨y, hy, rfl⟩ := Option.map_eq_some_iff.1 hx
              have := (List.getElem?_eq_some_iff.1 hy).2
              simp at this
              rw [this]) ps _ _ hcs
            have hev : (parts.map fun (i, x) => (i, a.eval x)).toList = ps.map fun (i, v) => (i, SV.den ρ v) := by
              rw [← evParts_den T hp]; simp
            have hle : ¬ (len * n > 2 ^ 24) := by have := hc.2.2; omega
            have hr : (execOp a.eval { dst := dst, op := .buildSlice t len parts, type := type, pos := pos, after := after, guard := guard }).run P w = .ok (.value (.slice (some ⟨w.heap.size, 0, none⟩) len len)) { w with heap := w.heap.push (.cells (SV.dens ρ args).toArray el (0, 0)) } := by
              simp only [execOp, Instr.buildSlice, Sem.run_bind, run_underlying hu, Result.andThen_ok, run_sizeOf hn, if_neg hle]
              by_cases h0 : len * n = 0
              · have hlen : len = 0 := by
                  rcases Nat.mul_eq_zero.1 h0 with h | h
                  · exact h
                  · have := hc.2.1; omega
                subst hlen
                rw [if_pos h0]
                simp only [Sem.run_bind, Sem.run_pure, Result.andThen_ok]
                rw [hev]
                have e0 : (Array.range (0 * n)).map (fun i => (#[] : Array Value)[i % (#[] : Array Value).size]!) = (SV.dens ρ (List.replicate 0 z.cells).flatten).toArray := by
                  rw [Nat.zero_mul]; simp [SV.dens]
                rw [e0, hf]
                simp [newRow]
              · rw [if_neg h0]
                simp only [Sem.run_bind, Sem.run_pure, Result.andThen_ok, zeroValue, run_typeInfo hi, hiz, cells_den]
                rw [hev]
                have := zeros_arr (SV.dens ρ z.cells) len
                rw [dens_len, hc.1] at this
                rw [this, ← dens_rep, hf]
                simp [newRow]
            unfold Oper.wp
            rw [hr]
            exact hd
          · cases h
        · cases h
      · cases h
    · cases h
  case makeSlice t l c =>
    split at h
    · rename_i x y hx hy
      cases h
      obtain ⟨v, w', h1, h2⟩ := hd
      have hr : (execOp a.eval { dst := dst, op := .makeSlice t l c, type := type, pos := pos, after := after, guard := guard }).run P w = .ok (.value v) w' := by
        simp only [SV.dens, List.getD_cons_succ, List.getD_cons_zero] at h1
        simp [execOp, ev_den T hx, ev_den T hy, h1]
      unfold Oper.wp
      rw [hr]
      exact h2
    · cases h
  case slice t x lo hi mx =>
    cases mx with
    | some m => simp at h
    | none =>
      split at h
      · rename_i v el _ hx hu
        have key : ∀ (l h' : Bool) (args' : List SV) (lv hv : Option Value), f = .sl t l h' → args = args' → lo.map a.eval = lv → hi.map a.eval = hv → (if l then (SV.dens ρ args')[1]? else none) = lv → (if h' then (SV.dens ρ args')[if l then 2 else 1]? else none) = hv → (SV.dens ρ args').getD 0 undef = SV.den ρ v →
            Oper.wp P { dst := dst, op := .slice t x lo hi none, type := type, pos := pos, after := after, guard := guard } a w K Q := by
          rintro l h' args' lv hv rfl rfl e1 e2 e3 e4 e5
          obtain ⟨u, w', h1, h2⟩ := hd
          rw [e3, e4, e5] at h1
          have hr : (execOp a.eval { dst := dst, op := .slice t x lo hi none, type := type, pos := pos, after := after, guard := guard }).run P w = .ok (.value u) w' := by
            simp [execOp, ev_den T hx, e1, e2, h1]
          unfold Oper.wp
          rw [hr]
          exact h2
        split at h
        · cases h
          exact key _ _ _ none none rfl rfl rfl rfl rfl rfl rfl
        · split at h
          · rename_i l b hb
            cases h
            exact key _ _ _ (some (SV.den ρ b)) none rfl rfl (by simp [ev_den T hb]) rfl rfl rfl rfl
          · cases h
        · split at h
          · rename_i l b hb
            cases h
            exact key _ _ _ none (some (SV.den ρ b)) rfl rfl rfl (by simp [ev_den T hb]) rfl rfl rfl
          · cases h
        · split at h
          · rename_i l l' b b' hb hb'
            cases h
            exact key _ _ _ (some (SV.den ρ b)) (some (SV.den ρ b')) rfl rfl (by simp [ev_den T hb]) (by simp [ev_den T hb']) rfl rfl rfl
          · cases h
      · cases h
  all_goals first
    | (cases h; done)
    | ((try simp only [optE, optN] at h); (repeat' split at h) <;> cases h)
end Go.Sx

namespace Go.Sx
open Go
variable {Pl : Type}

section
variable {X : Wd Pl} {n : Nat}

theorem put_ctr (st : St) (d : Option Nat) (v : SV) : (st.put d v).ctr = st.ctr ∧ (st.put d v).heap = st.heap ∧ (st.put d v).res = st.res ∧ (st.put d v).asm = st.asm ∧ (st.put d v).nt = st.nt := by
  cases d with
  | none => exact ⟨rfl, rfl, rfl, rfl, rfl⟩
  | some t => simp only [St.put]; split <;> exact ⟨rfl, rfl, rfl, rfl, rfl⟩

end
end Go.Sx

namespace Go.Sx
open Go
variable {Pl : Type}
section
variable {X : Wd Pl} {n : Nat}

theorem enumT_look : ∀ (i : Nat) (l : List SV) (t : Nat) (v : SV), look (enumT i l) t = some v → i ≤ t ∧ l[t - i]? = some v
  | _, [], t, v, h => by simp [enumT, look] at h
  | i, x :: l, t, v, h => by
    simp only [enumT, look] at h
    split at h
    · rename_i e
      cases h
      subst e
      exact ⟨Nat.le_refl _, by simp⟩
    · rename_i e
      obtain ⟨h1, h2⟩ := enumT_look (i + 1) l t v h
      refine ⟨by omega, ?_⟩
      have : t - i = (t - (i + 1)) + 1 := by omega
      rw [this, List.getElem?_cons_succ]
      exact h2
theorem enter_tsat {ρ : Env Pl} {st : St} (hA : AsmOk ρ st.asm) (args : List SV) (f m : Nat) :
    TSat ρ { st with fn := f, nt := args.length + (m - args.length), tmps := enumT 0 args } { tmps := (SV.dens ρ args).toArray ++ Array.replicate (m - (SV.dens ρ args).toArray.size) undef, defers := [] } := by
  refine ⟨by simp [dens_len], rfl, fun t v h => ?_, hA⟩
  obtain ⟨-, h2⟩ := enumT_look 0 args t v h
  simp only [Nat.sub_zero] at h2
  have hlt : t < args.length := (List.getElem?_eq_some_iff.1 h2).1
  rw [Array.getElem?_append_left (by simpa [dens_len] using hlt), List.getElem?_toArray, dens_map, List.getElem?_map, h2]
  rfl

def rv (tmps : Array Value) : ResultVar → Sem Value
  | .tmp t => pure (tmps.getD t undef)
  | .cell a t => do loadVar t (← asAddr (tmps.getD a undef))
theorem results_rv (fn : Func) (tmps : Array Value) : results fn tmps = (do
  let vs ← fn.results.mapM (rv tmps)
  pure (if h : vs.size = 1 then vs[0] else .tuple vs)) := rfl
theorem results_run {ρ : Env Pl} {st : St} {a : Act} {w : World} (T : TSat ρ st a) (H : HSat X.I X.F X.w0 ρ st.heap st.res w) {P : Program} : ∀ {rs : List ResultVar} {vs : List SV}, resX P st rs = some vs →
    (rs.mapM (rv a.tmps)).run P w = .ok (SV.dens ρ vs) w
  | [], vs, h => by simp [resX] at h; subst h; simp [SV.dens]
  | r :: l, vs, h => by
    unfold resX at h
    split at h
    · rename_i v us hv hu
      cases h
      have ih := results_run T H hu
      have hr : (rv a.tmps r).run P w = .ok (SV.den ρ v) w := by
        cases r with
        | tmp t =>
          simp only at hv
          simp [rv, Array.getD_eq_getD_getElem?, T.tmps t v hv]
        | cell x t =>
          simp only at hv
          split at hv
          · rename_i y hy
            have e : a.tmps.getD x undef = SV.den ρ y := by simp [Array.getD_eq_getD_getElem?, T.tmps x y hy]
            have hl := loadX_run H hv
            have hp : ∃ b off, y = .ptr b off := by
              unfold loadX at hv
              split at hv
              · exact ⟨_, _, rfl⟩
              · cases hv
            obtain ⟨b, off, rfl⟩ := hp
            simp only [rv]
            rw [e]
            simp only [SV.den, Instr.loadAt, Instr.sureAddr, Sem.run_bind, Sem.run_pure, Result.andThen_ok, asAddr] at hl ⊢
            exact hl
          · cases hv
      simp only [List.mapM_cons, Sem.run_bind, hr, Result.andThen_ok, ih, Sem.run_pure, SV.dens]
    · cases h
theorem one_den (ρ : Env Pl) (vs : List SV) : (if h : (SV.dens ρ vs).toArray.size = 1 then (SV.dens ρ vs).toArray[0] else .tuple (SV.dens ρ vs).toArray) = SV.den ρ (oneX vs) := by
  cases vs with
  | nil => simp [SV.dens, oneX, SV.den]
  | cons v l =>
    cases l with
    | nil => simp [SV.dens, oneX]
    | cons u m => simp [SV.dens, oneX, SV.den]

end

end Go.Sx

namespace Go.Sx
open Go

mutual
/-- what may be held: a row of one's own; ints that nobody writes; blocks with what hangs on them. -/
inductive Pl where
  | row (T s : Nat) (xs : List Value)
  | ir (xs : List Int)
  | comp (v : Value) (h : List VBlk) (r : Subs)
  | non
inductive Subs where
  | nil
  | cons (p : Pl) (v : Value) (own : Bool) (l : Subs)
end
instance : Inhabited Pl := ⟨.ir []⟩
def Subs.list : Subs → List (Pl × Value × Bool)
  | .nil => []
  | .cons p v o l => (p, v, o) :: l.list
def Subs.of : List (Pl × Value × Bool) → Subs
  | [] => .nil
  | (p, v, o) :: l => .cons p v o (Subs.of l)
theorem Subs.of_list : ∀ l : List (Pl × Value × Bool), (Subs.of l).list = l
  | [] => rfl
  | (p, v, o) :: l => by simp [Subs.of, Subs.list, Subs.of_list l]

mutual
def Pl.foot : Pl → Value → Nat → Prop
  | .row _ _ _, v, i => v.ownBlock = some i
  | .ir _, _, _ => False
  | .comp _ h r, _, i => (∃ b ∈ h, b.1 = i) ∨ Subs.foot r i
  | .non, _, _ => False
def Subs.foot : Subs → Nat → Prop
  | .nil, _ => False
  | .cons p v _ l, i => Pl.foot p v i ∨ Subs.foot l i
end
mutual
def Pl.sh : Pl → Value → Nat → Prop
  | .row _ _ _, _, _ => False
  | .ir _, v, i => v.ownBlock = some i
  | .comp _ _ r, _, i => Subs.sh r i
  | .non, _, _ => False
def Subs.sh : Subs → Nat → Prop
  | .nil, _ => False
  | .cons p v _ l, i => Pl.sh p v i ∨ Subs.sh l i
end
/-- ints that can be read. -/
def IRow (w : World) (v : Value) (xs : List Int) : Prop := ∃ a n c, v = .slice a n c ∧ n = xs.length ∧ n ≤ c ∧ c ≤ maxLen ∧ (∀ ad, a = some ad → ad.block < w.heap.size) ∧ ∀ (i : Nat) (x : Int), xs[i]? = some x → ∃ ad, a = some ad ∧ w.cell? (ad.add i) = some (.int .i64 x)
mutual
def Pl.holds : Pl → Value → World → Prop
  | .row T s xs, v, w => 0 < s ∧ ∃ n, w.ownsRow 0 T s v n xs
  | .ir xs, v, w => IRow w v xs
  | .comp v0 h r, v, w => v = v0 ∧ (∀ b ∈ h, w.heap[b.1]? = some (.cells b.2.2.toArray b.2.1 (0, 0))) ∧ h.Pairwise (fun a b => a.1 ≠ b.1) ∧ Subs.holds r w ∧ (∀ b ∈ h, ¬ (Subs.foot r b.1 ∨ Subs.sh r b.1)) ∧ Subs.sep r
  | .non, _, _ => True
def Subs.holds : Subs → World → Prop
  | .nil, _ => True
  | .cons p v _ l, w => Pl.holds p v w ∧ Subs.holds l w
def Subs.sep : Subs → Prop
  | .nil => True
  | .cons p v o l => (∀ i, Pl.foot p v i → ¬ (Subs.foot l i ∨ Subs.sh l i)) ∧ (∀ i, Pl.sh p v i → ¬ Subs.foot l i) ∧ (o = false → ∀ i, ¬ Pl.foot p v i) ∧ Subs.sep l
end

theorem ownBlock_lt {w : World} {T s n : Nat} {v : Value} {xs : List Value} (h : w.ownsRow 0 T s v n xs) {i : Nat} (hi : v.ownBlock = some i) : i < w.heap.size := (h.lt i hi).2
theorem ownsRow_step {w w' : World} {T s n : Nat} {v : Value} {xs : List Value} (h : w.ownsRow 0 T s v n xs) (hs : ∀ i, v.ownBlock = some i → w'.heap[i]? = w.heap[i]?) : w'.ownsRow 0 T s v n xs := by
  obtain ⟨h1, h2⟩ := h
  refine ⟨h1, ?_⟩
  rcases h2 with h2 | ⟨g, cap, cur, rfl, hb, hg, h3⟩
  · exact .inl h2
  · exact .inr ⟨g, cap, cur, rfl, hb, (hs g rfl).trans hg, h3⟩
theorem addB (a : Addr) (n : Nat) : (a.add n).block = a.block := by unfold Addr.add; split <;> rfl
theorem irow_step {w w' : World} {v : Value} {xs : List Int} (h : IRow w v xs) (hs : ∀ i, v.ownBlock = some i → w'.heap[i]? = w.heap[i]?) : IRow w' v xs := by
  obtain ⟨a, n, c, rfl, hn, hc, hm, hb, h⟩ := h
  refine ⟨a, n, c, rfl, hn, hc, hm, fun ad e => ?_, fun i x hx => ?_⟩
  · subst e
    have h1 := hb ad rfl
    have h2 := hs ad.block rfl
    have h3 : w'.heap[ad.block]? = some (w.heap[ad.block]) := by rw [h2]; exact Array.getElem?_eq_getElem h1
    exact (Array.getElem?_eq_some_iff.1 h3).1
  · obtain ⟨ad, rfl, hcell⟩ := h i x hx
    refine ⟨ad, rfl, ?_⟩
    have : w'.cell? (ad.add i) = w.cell? (ad.add i) := by simp only [World.cell?, addB, hs ad.block rfl]
    rw [this]
    exact hcell
mutual
theorem Pl.stable : ∀ (p : Pl) {v : Value} {w w' : World}, Pl.holds p v w → (∀ i, Pl.foot p v i ∨ Pl.sh p v i → w'.heap[i]? = w.heap[i]?) → Pl.holds p v w'
  | .row T s xs, v, w, w', h, hs => by
    simp only [Pl.holds] at h ⊢
    obtain ⟨h0, n, h⟩ := h
    exact ⟨h0, n, ownsRow_step h fun i hi => hs i (.inl (by simpa only [Pl.foot] using hi))⟩
  | .ir xs, v, w, w', h, hs => by
    simp only [Pl.holds] at h ⊢
    exact irow_step h fun i hi => hs i (.inr (by simpa only [Pl.sh] using hi))
  | .comp v0 hb r, v, w, w', h, hs => by
    simp only [Pl.holds] at h ⊢
    obtain ⟨h1, h2, h3, h4, h5, h6⟩ := h
    refine ⟨h1, fun b hm => (hs b.1 (.inl ?_)).trans (h2 b hm), h3, Subs.stable r h4 fun i hi => hs i ?_, h5, h6⟩
    · simp only [Pl.foot]; exact .inl ⟨b, hm, rfl⟩
    · rcases hi with hi | hi
      · exact .inl (by simp only [Pl.foot]; exact .inr hi)
      · exact .inr (by simpa only [Pl.sh] using hi)
  | .non, _, _, _, _, _ => by simp [Pl.holds]
theorem Subs.stable : ∀ (r : Subs) {w w' : World}, Subs.holds r w → (∀ i, Subs.foot r i ∨ Subs.sh r i → w'.heap[i]? = w.heap[i]?) → Subs.holds r w'
  | .nil, _, _, _, _ => by simp [Subs.holds]
  | .cons p v o l, w, w', h, hs => by
    simp only [Subs.holds] at h ⊢
    exact ⟨Pl.stable p h.1 fun i hi => hs i (by simp only [Subs.foot, Subs.sh]; rcases hi with hi | hi; exact .inl (.inl hi); exact .inr (.inl hi)),
      Subs.stable l h.2 fun i hi => hs i (by simp only [Subs.foot, Subs.sh]; rcases hi with hi | hi; exact .inl (.inr hi); exact .inr (.inr hi))⟩
end
mutual
theorem Pl.lt : ∀ (p : Pl) {v : Value} {w : World} {i : Nat}, Pl.holds p v w → Pl.foot p v i ∨ Pl.sh p v i → i < w.heap.size
  | .row T s xs, v, w, i, h, hi => by
    simp only [Pl.holds, Pl.foot, Pl.sh, or_false] at h hi
    obtain ⟨-, n, h⟩ := h
    exact ownBlock_lt h hi
  | .ir xs, v, w, i, h, hi => by
    simp only [Pl.holds, Pl.foot, Pl.sh, false_or] at h hi
    obtain ⟨a, n, c, rfl, hn, hc, hm, hb, h⟩ := h
    cases a with
    | none => simp [Value.ownBlock] at hi
    | some ad =>
      simp only [Value.ownBlock, Option.some.injEq] at hi
      rw [← hi]
      exact hb ad rfl
  | .comp v0 hb r, v, w, i, h, hi => by
    simp only [Pl.holds] at h
    obtain ⟨h1, h2, h3, h4, h5, h6⟩ := h
    simp only [Pl.foot, Pl.sh] at hi
    rcases hi with (⟨b, hm, rfl⟩ | hi) | hi
    · exact (Array.getElem?_eq_some_iff.1 (h2 b hm)).1
    · exact Subs.lt r h4 (.inl hi)
    · exact Subs.lt r h4 (.inr hi)
  | .non, _, _, _, _, hi => by simp [Pl.foot, Pl.sh] at hi
theorem Subs.lt : ∀ (r : Subs) {w : World} {i : Nat}, Subs.holds r w → Subs.foot r i ∨ Subs.sh r i → i < w.heap.size
  | .nil, _, _, _, h => by simp [Subs.foot, Subs.sh] at h
  | .cons p v o l, w, i, h, hi => by
    simp only [Subs.holds] at h
    simp only [Subs.foot, Subs.sh] at hi
    rcases hi with (hi | hi) | (hi | hi)
    · exact Pl.lt p h.1 (.inl hi)
    · exact Subs.lt l h.2 (.inl hi)
    · exact Pl.lt p h.1 (.inr hi)
    · exact Subs.lt l h.2 (.inr hi)
end
mutual
theorem Pl.fs : ∀ (p : Pl) {v : Value} {w : World} {i : Nat}, Pl.holds p v w → Pl.foot p v i → ¬ Pl.sh p v i
  | .row T s xs, v, w, i, _, _ => by simp [Pl.sh]
  | .ir xs, v, w, i, _, h => by simp [Pl.foot] at h
  | .comp v0 hb r, v, w, i, h, hf => by
    simp only [Pl.holds] at h
    obtain ⟨h1, h2, h3, h4, h5, h6⟩ := h
    simp only [Pl.foot] at hf
    simp only [Pl.sh]
    rcases hf with ⟨b, hm, rfl⟩ | hf
    · exact fun hs => h5 b hm (.inr hs)
    · exact Subs.fs r h4 h6 hf
  | .non, _, _, _, _, h => by simp [Pl.foot] at h
theorem Subs.fs : ∀ (r : Subs) {w : World} {i : Nat}, Subs.holds r w → Subs.sep r → Subs.foot r i → ¬ Subs.sh r i
  | .nil, _, _, _, _, h => by simp [Subs.foot] at h
  | .cons p v o l, w, i, h, hs, hf => by
    simp only [Subs.holds] at h
    simp only [Subs.sep] at hs
    simp only [Subs.foot] at hf
    simp only [Subs.sh]
    rcases hf with hf | hf
    · rintro (hi | hi)
      · exact Pl.fs p h.1 hf hi
      · exact hs.1 i hf (.inr hi)
    · rintro (hi | hi)
      · exact hs.2.1 i hi hf
      · exact Subs.fs l h.2 hs.2.2.2 hf hi
end
def PJ : Feel Pl := ⟨Pl.holds, Pl.foot, Pl.sh⟩

theorem sfoot_iff : ∀ (r : Subs) (i : Nat), Subs.foot r i ↔ ∃ x ∈ r.list, Pl.foot x.1 x.2.1 i
  | .nil, i => by simp [Subs.foot, Subs.list]
  | .cons p v o l, i => by simp [Subs.foot, Subs.list, sfoot_iff l i]
theorem ssh_iff : ∀ (r : Subs) (i : Nat), Subs.sh r i ↔ ∃ x ∈ r.list, Pl.sh x.1 x.2.1 i
  | .nil, i => by simp [Subs.sh, Subs.list]
  | .cons p v o l, i => by simp [Subs.sh, Subs.list, ssh_iff l i]
theorem sholds_iff (w : World) : ∀ (r : Subs), Subs.holds r w ↔ ∀ x ∈ r.list, Pl.holds x.1 x.2.1 w
  | .nil => by simp [Subs.holds, Subs.list]
  | .cons p v o l => by simp [Subs.holds, Subs.list, sholds_iff w l]
theorem ssep_iff : ∀ (r : Subs), Subs.sep r ↔ r.list.Pairwise (fun a b => SepJ PJ a.1 a.2.1 b.1 b.2.1) ∧ ∀ x ∈ r.list, x.2.2 = false → ∀ i, ¬ Pl.foot x.1 x.2.1 i
  | .nil => by simp [Subs.sep, Subs.list]
  | .cons p v o l => by
    simp only [Subs.sep, Subs.list, List.pairwise_cons, List.mem_cons, forall_eq_or_imp, ssep_iff l, sfoot_iff, ssh_iff]
    constructor
    · rintro ⟨h1, h2, h3, h4, h5⟩
      refine ⟨⟨fun x hx i => ⟨fun hf => ⟨fun hg => h1 i hf (.inl ⟨x, hx, hg⟩), fun hg => h1 i hf (.inr ⟨x, hx, hg⟩)⟩, fun hf hg => h2 i hg ⟨x, hx, hf⟩⟩, h4⟩, h3, h5⟩
    · rintro ⟨⟨h1, h4⟩, h3, h5⟩
      refine ⟨fun i hf => ?_, fun i hf => ?_, h3, h4, h5⟩
      · rintro (⟨x, hx, hg⟩ | ⟨x, hx, hg⟩)
        · exact (((h1 x hx) i).1 hf).1 hg
        · exact (((h1 x hx) i).1 hf).2 hg
      · rintro ⟨x, hx, hg⟩
        exact ((h1 x hx) i).2 hg hf

/-- a payload with blocks is opened. -/
theorem Turn.opens {v0 : Value} {hb : List VBlk} {s : Subs} {o : Bool} {h : List VBlk} {r : List (Pl × Value × Bool)} : Turn PJ h ((.comp v0 hb s, v0, o) :: r) (hb ++ h) (s.list ++ r) := by
  refine ⟨fun w H => ?_, fun i hf => ?_, fun i hf => ?_⟩
  · have hc := H.res _ (List.mem_cons_self ..)
    simp only [PJ, Pl.holds] at hc
    obtain ⟨-, c2, c3, c4, c5, c6⟩ := hc
    rw [sholds_iff] at c4
    rw [ssep_iff] at c6
    have hap := H.apart _ (List.mem_cons_self ..)
    have hsp := List.pairwise_cons.1 H.sep
    refine ⟨fun b hb' => ?_, List.pairwise_append.2 ⟨c3, H.dist, fun a ha b hb' e => ?_⟩, fun e he => ?_, fun e he b hb' => ?_, List.pairwise_append.2 ⟨c6.1, hsp.2, fun a ha b hb' => ?_⟩, fun e he => ?_⟩
    · rcases List.mem_append.1 hb' with hb' | hb'
      · exact c2 b hb'
      · exact H.blk b hb'
    · exact hap b hb' (.inl (by simp only [PJ, Pl.foot]; exact .inl ⟨a, ha, e⟩))
    · rcases List.mem_append.1 he with he | he
      · exact c4 e he
      · exact H.res e (List.mem_cons_of_mem _ he)
    · rcases List.mem_append.1 he with he | he <;> rcases List.mem_append.1 hb' with hb' | hb'
      · intro hf
        refine c5 b hb' ?_
        rw [sfoot_iff, ssh_iff]
        exact hf.imp (fun hf => ⟨e, he, hf⟩) (fun hf => ⟨e, he, hf⟩)
      · intro hf
        refine hap b hb' ?_
        simp only [PJ, Pl.foot, Pl.sh]
        rw [sfoot_iff, ssh_iff]
        exact hf.imp (fun hf => .inr ⟨e, he, hf⟩) (fun hf => ⟨e, he, hf⟩)
      · have := hsp.1 e he b.1
        have hfb : Pl.foot (.comp v0 hb s) v0 b.1 := by simp only [Pl.foot]; exact .inl ⟨b, hb', rfl⟩
        exact fun hf => hf.elim (this.1 hfb).1 (this.1 hfb).2
      · exact H.apart e (List.mem_cons_of_mem _ he) b hb'
    · have := hsp.1 b hb'
      intro i
      refine ⟨fun hf => (this i).1 ?_, fun hf hs => (this i).2 hf ?_⟩
      · show Pl.foot _ _ i
        simp only [Pl.foot]
        rw [sfoot_iff]
        exact .inr ⟨a, ha, hf⟩
      · show Pl.sh _ _ i
        simp only [Pl.sh]
        rw [ssh_iff]
        exact ⟨a, ha, hs⟩
    · rcases List.mem_append.1 he with he | he
      · exact c6.2 e he
      · exact H.per e (List.mem_cons_of_mem _ he)
  · rcases hf with ⟨b, hb', rfl⟩ | ⟨e, he, hf⟩
    · rcases List.mem_append.1 hb' with hb' | hb'
      · exact .inr ⟨_, List.mem_cons_self .., by simp only [PJ, Pl.foot]; exact .inl ⟨b, hb', rfl⟩⟩
      · exact .inl ⟨b, hb', rfl⟩
    · rcases List.mem_append.1 he with he | he
      · exact .inr ⟨_, List.mem_cons_self .., by simp only [PJ, Pl.foot]; rw [sfoot_iff]; exact .inr ⟨e, he, hf⟩⟩
      · exact .inr ⟨e, List.mem_cons_of_mem _ he, hf⟩
  · obtain ⟨e, he, hf⟩ := hf
    rcases List.mem_append.1 he with he | he
    · exact .inl ⟨_, List.mem_cons_self .., by simp only [PJ, Pl.sh]; rw [ssh_iff]; exact ⟨e, he, hf⟩⟩
    · exact .inl ⟨e, List.mem_cons_of_mem _ he, hf⟩
/-- blocks, and what hangs on them, become one payload. -/
theorem Turn.closes {v0 : Value} {hb : List VBlk} {s : List (Pl × Value × Bool)} {h : List VBlk} {r : List (Pl × Value × Bool)} : Turn PJ (hb ++ h) (s ++ r) h ((.comp v0 hb (Subs.of s), v0, true) :: r) := by
  have f1 : ∀ i, PJ.foot (.comp v0 hb (Subs.of s)) v0 i ↔ (∃ b ∈ hb, b.1 = i) ∨ ∃ e ∈ s, Pl.foot e.1 e.2.1 i := fun i => by
    simp only [PJ, Pl.foot]; rw [sfoot_iff, Subs.of_list]
  have f2 : ∀ i, PJ.sh (.comp v0 hb (Subs.of s)) v0 i ↔ ∃ e ∈ s, Pl.sh e.1 e.2.1 i := fun i => by
    simp only [PJ, Pl.sh]; rw [ssh_iff, Subs.of_list]
  refine ⟨fun w H => ?_, fun i hf => ?_, fun i hf => ?_⟩
  · have hd := List.pairwise_append.1 H.dist
    have hs := List.pairwise_append.1 H.sep
    refine ⟨fun b hb' => H.blk b (List.mem_append_right _ hb'), hd.2.1, fun e he => ?_, fun e he b hb' => ?_, List.pairwise_cons.2 ⟨fun e he i => ?_, hs.2.1⟩, fun e he => ?_⟩
    · rcases List.mem_cons.1 he with rfl | he
      · simp only [PJ, Pl.holds]
        refine ⟨trivial, fun b hb' => H.blk b (List.mem_append_left _ hb'), hd.1, ?_, fun b hb' => ?_, ?_⟩
        · rw [sholds_iff, Subs.of_list]
          exact fun x hx => H.res x (List.mem_append_left _ hx)
        · rw [sfoot_iff, ssh_iff, Subs.of_list]
          rintro (⟨x, hx, hf⟩ | ⟨x, hx, hf⟩)
          · exact H.apart x (List.mem_append_left _ hx) b (List.mem_append_left _ hb') (.inl hf)
          · exact H.apart x (List.mem_append_left _ hx) b (List.mem_append_left _ hb') (.inr hf)
        · rw [ssep_iff, Subs.of_list]
          exact ⟨hs.1, fun x hx => H.per x (List.mem_append_left _ hx)⟩
      · exact H.res e (List.mem_append_right _ he)
    · rcases List.mem_cons.1 he with rfl | he
      · simp only
        rw [f1, f2]
        rintro ((⟨c, hc, hcb⟩ | ⟨x, hx, hf⟩) | ⟨x, hx, hf⟩)
        · exact hd.2.2 c hc b hb' hcb
        · exact H.apart x (List.mem_append_left _ hx) b (List.mem_append_right _ hb') (.inl hf)
        · exact H.apart x (List.mem_append_left _ hx) b (List.mem_append_right _ hb') (.inr hf)
      · exact H.apart e (List.mem_append_right _ he) b (List.mem_append_right _ hb')
    · show (PJ.foot _ _ i → ¬ PJ.foot _ _ i ∧ ¬ PJ.sh _ _ i) ∧ (PJ.foot _ _ i → ¬ PJ.sh _ _ i)
      simp only
      rw [f1, f2]
      refine ⟨?_, fun hf ⟨x, hx, hg⟩ => ((hs.2.2 x hx e he) i).2 hf hg⟩
      rintro (⟨b, hb', rfl⟩ | ⟨x, hx, hf⟩)
      · have := H.apart e (List.mem_append_right _ he) b (List.mem_append_left _ hb')
        exact ⟨fun h => this (.inl h), fun h => this (.inr h)⟩
      · exact ((hs.2.2 x hx e he) i).1 hf
    · rcases List.mem_cons.1 he with rfl | he
      · intro h0; cases h0
      · exact H.per e (List.mem_append_right _ he)
  · rcases hf with ⟨b, hb', rfl⟩ | ⟨e, he, hf⟩
    · exact .inl ⟨b, List.mem_append_right _ hb', rfl⟩
    · rcases List.mem_cons.1 he with rfl | he
      · simp only at hf
        rw [f1] at hf
        rcases hf with ⟨b, hb', rfl⟩ | ⟨x, hx, hf⟩
        · exact .inl ⟨b, List.mem_append_left _ hb', rfl⟩
        · exact .inr ⟨x, List.mem_append_left _ hx, hf⟩
      · exact .inr ⟨e, List.mem_append_right _ he, hf⟩
  · obtain ⟨e, he, hf⟩ := hf
    rcases List.mem_cons.1 he with rfl | he
    · simp only at hf
      rw [f2] at hf
      obtain ⟨x, hx, hf⟩ := hf
      exact .inl ⟨x, List.mem_append_left _ hx, hf⟩
    · exact .inl ⟨e, List.mem_append_right _ he, hf⟩
theorem Turn.nil {T s : Nat} (h0 : 0 < s) {o : Bool} {h : List VBlk} {r : List (Pl × Value × Bool)} : Turn PJ h r h ((.row T s [], .slice none 0 0, o) :: r) :=
  Turn.adds (J := PJ) (fun w => by simp only [PJ, Pl.holds]; exact ⟨h0, 0, World.ownsRow_nil w 0 T s⟩) (fun i => by simp [PJ, Pl.foot, Value.ownBlock]) (fun i => by simp [PJ, Pl.sh])
theorem Turn.non {v : Value} {o : Bool} {h : List VBlk} {r : List (Pl × Value × Bool)} : Turn PJ h r h ((.non, v, o) :: r) :=
  Turn.adds (J := PJ) (fun w => by simp [PJ, Pl.holds]) (fun i => by simp [PJ, Pl.foot]) (fun i => by simp [PJ, Pl.sh])
theorem Turn.nilir {c : Nat} (hc : c ≤ maxLen) {h : List VBlk} {r : List (Pl × Value × Bool)} : Turn PJ h r h ((.ir [], .slice none 0 c, false) :: r) :=
  Turn.adds (J := PJ) (fun w => by simp only [PJ, Pl.holds]; exact ⟨none, 0, c, rfl, rfl, Nat.zero_le _, hc, fun _ h => (by cases h), fun i x h => (by simp at h)⟩) (fun i => by simp [PJ, Pl.foot]) (fun i => by simp [PJ, Pl.sh, Value.ownBlock])
/-- a row that is written no more. -/
theorem owns_irow {w : World} {n : Nat} {v : Value} {xs : List Int} (h : w.ownsRow 0 3 1 v n (xs.map (Value.int .i64))) : IRow w v xs := by
  have hl := h.1
  simp only [List.length_map, Nat.mul_one] at hl
  have hlt := fun i (hi : v.ownBlock = some i) => ownBlock_lt h hi
  rcases h.2 with ⟨rfl, rfl⟩ | ⟨g, cap, cur, rfl, hb, hg, hle, hm, hcs, htk⟩
  · have hx : xs = [] := List.length_eq_zero_iff.1 (by omega)
    subst hx
    exact ⟨none, 0, 0, rfl, rfl, Nat.le_refl _, Nat.zero_le _, fun _ h => (by cases h), fun i x h => (by simp at h)⟩
  · refine ⟨some ⟨g, 0, none⟩, n, cap, rfl, by omega, hle, hm, fun ad e => ?_, fun i x hx => ?_⟩
    · cases e
      exact hlt g rfl
    · exact ⟨⟨g, 0, none⟩, rfl, h.cells (g := g) rfl i _ (by rw [List.getElem?_map, hx]; rfl)⟩
theorem Turn.frz {xs : List Int} {v : Value} {o : Bool} {h : List VBlk} {r : List (Pl × Value × Bool)} : Turn PJ h ((.row 3 1 (xs.map (Value.int .i64)), v, o) :: r) h ((.ir xs, v, false) :: r) :=
  Turn.first (J := PJ) (fun w hw => by simp only [PJ, Pl.holds] at hw ⊢; obtain ⟨-, n, hw⟩ := hw; exact owns_irow hw) (fun i h => by simp [PJ, Pl.foot] at h) (fun i hi => .inr (by simpa only [PJ, Pl.sh, Pl.foot] using hi)) (fun _ i => by simp [PJ, Pl.foot])
def intsOf : List Value → Option (List Int)
  | [] => some []
  | .int .i64 x :: l => (intsOf l).map (x :: ·)
  | _ => none
theorem intsOf_spec : ∀ {l : List Value} {xs : List Int}, intsOf l = some xs → l = xs.map (Value.int .i64)
  | [], xs, h => by simp [intsOf] at h; subst h; rfl
  | v :: l, xs, h => by
    cases v <;> first
      | (simp [intsOf] at h; done)
      | skip
    rename_i k x
    cases k <;> first
      | (simp [intsOf] at h; done)
      | skip
    simp only [intsOf] at h
    obtain ⟨ys, hy, rfl⟩ := Option.map_eq_some_iff.1 h
    rw [intsOf_spec hy]
    rfl
/-- a row of ints, written no more. -/
def frzP : Pl → Pl
  | .row 3 1 xs => match intsOf xs with
    | some l => .ir l
    | none => .non
  | _ => .non
theorem frzP_turn {p : Pl} {v : Value} {o : Bool} {h : List VBlk} {r : List (Pl × Value × Bool)} : Turn PJ h ((p, v, o) :: r) h ((frzP p, v, false) :: r) := by
  have hn : ∀ p : Pl, Turn PJ h ((p, v, o) :: r) h ((.non, v, false) :: r) := fun p =>
    Turn.first (J := PJ) (fun w _ => by simp [PJ, Pl.holds]) (fun i h => by simp [PJ, Pl.foot] at h) (fun i h => by simp [PJ, Pl.sh] at h) (fun _ i => by simp [PJ, Pl.foot])
  unfold frzP
  split
  · split
    · rename_i l hl
      rw [intsOf_spec hl]
      exact Turn.frz
    · exact hn _
  · exact hn _
def compP (g T : Nat) (cs : List Value) (s : List (Pl × Value × Bool)) : Pl := .comp (.pointer (some ⟨g, 0, none⟩)) [(g, T, cs)] (Subs.of s)
/-- memory, as payloads tell. -/
def PI : Interp Pl where
  toFeel := PJ
  stable := fun {p} _ _ _ h hs => Pl.stable p h hs
  lt := fun {p} _ _ _ h hi => Pl.lt p h hi
  fs := fun {p} _ _ _ h hf => Pl.fs p h hf
  row0 := fun T s => .row T s []
  ir0 := .ir []
  non := .non
  frz := frzP
  frz_turn := frzP_turn
  comp := compP
  row0_turn := fun h0 => Turn.nil h0
  ir0_turn := Turn.nilir (Nat.zero_le _)
  non_turn := Turn.non
  opens := by
    intro g T cs s o h r
    have := Turn.opens (v0 := .pointer (some ⟨g, 0, none⟩)) (hb := [(g, T, cs)]) (s := Subs.of s) (o := o) (h := h) (r := r)
    rw [Subs.of_list] at this
    exact this
  closes := by
    intro g T cs s h r
    exact Turn.closes (v0 := .pointer (some ⟨g, 0, none⟩)) (hb := [(g, T, cs)]) (s := s) (h := h) (r := r)
end Go.Sx

namespace Go.Sx
open Go

/-- the components of a slice. -/
def slcOf : Value → Option Addr × Nat × Nat
  | .slice a n c => (a, n, c)
  | _ => (none, 0, 0)
def out0 : Out Pl := ⟨fun _ => 0, fun _ => false, fun _ => 0, fun _ => (none, 0, 0), fun _ => .ir []⟩
theorem owns_slice {w : World} {T s n : Nat} {v : Value} {xs : List Value} (h : w.ownsRow 0 T s v n xs) : v = .slice (slcOf v).1 (slcOf v).2.1 (slcOf v).2.2 ∧ (slcOf v).2.1 = n ∧ xs.length = n * s := by
  obtain ⟨h1, h2⟩ := h
  rcases h2 with ⟨rfl, rfl⟩ | ⟨g, cap, cur, rfl, _⟩
  · exact ⟨rfl, rfl, h1⟩
  · exact ⟨rfl, rfl, h1⟩
theorem fr_push (F : Nat → Prop) (w : World) (o : Obj) : Fr F w { w with heap := w.heap.push o } :=
  ⟨rfl, rfl, rfl, by simp, fun i hi _ => by simp only; rw [Array.getElem?_push, if_neg (by omega)]⟩
theorem fr_grown {w w' : World} {row : Option Nat} (h : w.grownBy w' row) (F : Nat → Prop) (hF : ∀ i, row = some i → F i) : Fr F w w' :=
  ⟨h.os, h.tape, h.output, h.size, fun i hi hn => h.block i hi fun e => hn (hF i e.symm)⟩

/-- a row is made of what it is to hold. -/
def rowBS (T s n tag : Nat) : Row Pl where
  f := .bs T s n
  needs := []
  ret := .one (.slc 0)
  news := [(tag, 0, .slc 0, true)]
  width := 1
  pre vs _ := vs.length = n * s ∧ 0 < s ∧ n ≤ maxLen
  rel vs _ o := o.p 0 = .row T s vs ∧ (o.s 0).2.1 = n
theorem rowBS_ok (P : Program) (T s n tag : Nat) : RowOK P PI (rowBS T s n tag) := by
  intro vs ps w hneed hsep hper hpre
  obtain ⟨h1, h2, h3⟩ := hpre
  refine ⟨{ out0 with s := fun _ => (some ⟨w.heap.size, 0, none⟩, n, n), p := fun _ => .row T s vs }, ⟨rfl, rfl⟩, rfl, ?_, by simp [newsL, afterL, rowBS], fr_push _ _ _⟩
  intro x hx
  simp only [newsL, afterL, rowBS, List.append_nil, List.mem_singleton] at hx
  subst hx
  refine ⟨?_, fun i hi => ?_, fun i hi => ?_, fun h => by cases h⟩
  · show Pl.holds _ _ _
    simp only [Pl.holds]
    refine ⟨h2, n, h1, .inr ⟨w.heap.size, n, vs.toArray, rfl, Nat.zero_le _, by simp, Nat.le_refl _, h3, by simpa using h1, ?_⟩⟩
    rw [List.take_of_length_le (by simp [h1])]
  · change Pl.foot _ _ i at hi
    simp only [Pl.foot, At.val, Value.ownBlock, Option.some.injEq] at hi
    exact .inr (by omega)
  · change Pl.sh _ _ i at hi
    simp [Pl.sh] at hi

/-- what the program says of a type of rows. -/
structure RowTy (P : Program) (t e s bytes : Nat) (z : List Value) : Prop where
  un : P.underlying t = some (.slice e)
  info : ∃ i, P.info? e = some i ∧ i.size = s ∧ i.bytes = bytes ∧ ∃ v, i.zero = some v ∧ v.cells = z.toArray
  len : z.length = s
  pos : 0 < s

theorem rowPair {I : Interp Pl} {a b : Pl × Value} (h : [a, b].Pairwise (fun a b => Sep I a.1 a.2 b.1 b.2)) : Sep I a.1 a.2 b.1 b.2 := by
  simpa using h

/-- a row, and another one behind it. -/
def rowApp (t e s bytes tag : Nat) : Row Pl where
  f := .app t t
  needs := [(0, tag, .eat), (1, tag, .tu)]
  ret := .one (.slc 0)
  news := [(tag, 2, .slc 0, true)]
  width := 3
  pre vs ps := ∃ v u, vs = [v, u] ∧ ∃ xs ys, ps = [.row e s xs, .row e s ys] ∧ (xs.length + ys.length) * bytes ≤ 140737488355328 ∧ xs.length + ys.length ≤ maxLen ∧ ∀ u ∈ ys, u.oneCell' = true
  rel _ ps o := ∀ xs ys, ps = [.row e s xs, .row e s ys] → o.p 2 = .row e s (xs ++ ys) ∧ o.p 1 = .row e s ys ∧ (o.s 0).2.1 * s = xs.length + ys.length

/-- a slice that reads so. -/
def Reads (w : World) (s : Nat) (u : Value) (m : Nat) (ys : List Value) : Prop := ys.length = m * s ∧ ((∃ c, u = .slice none 0 c ∧ m = 0) ∨ ∃ a c, u = .slice (some a) m c ∧ ∀ j x, ys[j]? = some x → w.cell? (a.add j) = some x)
theorem owns_reads {w : World} {T s n : Nat} {v : Value} {xs : List Value} (h : w.ownsRow 0 T s v n xs) : Reads w s v n xs := by
  refine ⟨h.1, ?_⟩
  rcases h.2 with ⟨rfl, rfl⟩ | ⟨g, cap, cur, rfl, h2⟩
  · exact .inl ⟨0, rfl, rfl⟩
  · exact .inr ⟨⟨g, 0, none⟩, cap, rfl, fun j x hx => h.cells rfl j x hx⟩
theorem app_run {P : Program} {t e s bytes : Nat} {z : List Value} (ht : RowTy P t e s bytes z) {w : World} {v u : Value} {n m : Nat} {xs ys : List Value} (hv : w.ownsRow 0 e s v n xs) (hu : Reads w s u m ys)
    (hb : (xs.length + ys.length) * bytes ≤ 140737488355328) (hm : xs.length + ys.length ≤ maxLen) (h1 : ∀ u ∈ ys, u.oneCell' = true) (ty : Nat) :
    ∃ v' w', (Builtin.append_ #[t, t] ty #[v, u]).run P w = .ok v' w' ∧ w'.ownsRow 0 e s v' (n + m) (xs ++ ys) ∧ w.grownBy w' v.ownBlock ∧ ∀ i, v'.ownBlock = some i → v.ownBlock = some i ∨ w.heap.size ≤ i := by
  obtain ⟨i, hi, rfl, rfl, zv, hz, hzc⟩ := ht.info
  have hl1 := hv.1
  have hl2 := hu.1
  have hpos := ht.pos
  have hn : n + m ≤ xs.length + ys.length := by
    rw [hl1, hl2, ← Nat.add_mul]
    exact Nat.le_mul_of_pos_right _ hpos
  have hnb : (n + m) * i.bytes ≤ 140737488355328 := Nat.le_trans (Nat.mul_le_mul_right _ hn) hb
  rcases hu.2 with ⟨c, rfl, rfl⟩ | ⟨a, c, rfl, hc⟩
  · have hys : ys = [] := by simpa using hl2
    subst hys
    refine ⟨v, w, ?_, by simpa using hv, ⟨rfl, rfl, rfl, Nat.le_refl _, fun _ _ _ => rfl⟩, fun i h => .inl h⟩
    have hsz' : sizeX P e = some i.size := by simp [sizeX, hi]
    rcases hv.2 with ⟨rfl, rfl⟩ | ⟨g, cap, cur, rfl, -, hg, hle, -, hcs, htk⟩
    · simp [Builtin.append_, run_underlying ht.un, run_sizeOf hsz', Builtin.lenOf, Builtin.firstCells]
    · simp [Builtin.append_, run_underlying ht.un, run_sizeOf hsz', Builtin.lenOf, Builtin.firstCells, hle, storeCells]
  · obtain ⟨v', w', h2, h3, h4, h5⟩ := run_append_own w 0 t ty e i zv i.size i.bytes ht.un hi hz rfl rfl (by rw [hzc]; simpa using ht.len) hpos v n xs hv a m c ys hl2 hc h1 (Nat.le_trans hn hm) hnb (Nat.zero_le _)
    refine ⟨v', w', h2, h3, h4, fun k hk => ?_⟩
    have hml : n + m ≤ 140737488355328 * 65536 := by
      have := Nat.le_trans hn hm
      unfold maxLen at this
      omega
    rcases hv.2 with ⟨rfl, rfl⟩ | ⟨g, cap, cur, rfl, -, hg, hle, -, hcs, htk⟩
    · by_cases hm0 : m = 0
      · have := h5.2 ⟨rfl, hm0⟩
        rw [this] at hk
        simp [Value.ownBlock] at hk
      · have hr := run_append_nil (P := P) w t ty e i zv ht.un hi hz a m c ys hl2 hc (by omega) (by unfold maxLen at hm; omega) (by rw [Nat.zero_add] at hnb; omega)
        rw [h2] at hr
        injection hr with hr _
        rw [hr] at hk
        simp only [Value.ownBlock, Option.some.injEq] at hk
        exact .inr (by omega)
    · by_cases hroom : n + m ≤ cap
      · have hfit : n * i.size + ys.length ≤ cur.size := by rw [hl2, hcs, ← Nat.add_mul]; exact Nat.mul_le_mul_right _ hroom
        have hr := run_append_room (P := P) w t ty e i ht.un hi g n cap cur hg a m c ys hl2 hc h1 hroom hfit
        rw [h2] at hr
        injection hr with hr _
        rw [hr] at hk
        exact .inl hk
      · have hr := run_append_grow (P := P) w t ty e i zv ht.un hi hz ⟨g, 0, none⟩ n cap xs hl1 (hv.cells (g := g) rfl) a m c ys hl2 hc (by omega) (by unfold maxLen at hm; omega) (growslice_fits (by omega) hnb)
        rw [h2] at hr
        injection hr with hr _
        rw [hr] at hk
        simp only [Value.ownBlock, Option.some.injEq] at hk
        exact .inr (by omega)

theorem rowApp_ok {P : Program} {t e s bytes : Nat} {z : List Value} (ht : RowTy P t e s bytes z) (tag : Nat) : RowOK P PI (rowApp t e s bytes tag) := by
  intro vs ps w hneed hsep hper hpre
  obtain ⟨v, u, rfl, xs, ys, rfl, hb, hm, h1⟩ := hpre
  have hn := hneed
  simp only [needL, rowApp] at hn
  obtain ⟨hv, hu, -⟩ := hn
  change Pl.holds _ _ _ at hv
  change Pl.holds _ _ _ at hu
  simp only [Pl.holds, argV1, List.getD_cons_succ, argV0, List.getD_cons_zero] at hv hu
  obtain ⟨-, n, hv⟩ := hv
  obtain ⟨-, m, hu⟩ := hu
  have hsp := rowPair hsep
  simp only [argV1, List.getD_cons_succ, argV0, List.getD_cons_zero] at hsp
  intro ty
  obtain ⟨v', w', hr, ho, hg, hnew⟩ := app_run ht hv (owns_reads hu) hb hm h1 ty
  obtain ⟨e1, e2, e3⟩ := owns_slice ho
  have hne : ∀ i, u.ownBlock = some i → v.ownBlock ≠ some i := fun i hi hv' => by
    have := (hsp i).1
    exact (this (by show Pl.foot _ _ i; simpa only [Pl.foot] using hv')).1 (by show Pl.foot _ _ i; simpa only [Pl.foot] using hi)
  have hu' : w'.ownsRow 0 e s u m ys := ownsRow_step hu fun i hi => hg.block i (ownBlock_lt hu hi) fun e => hne i hi e.symm
  refine ⟨v', w', hr, { out0 with s := fun _ => slcOf v', p := fun j => if j = 1 then .row e s ys else .row e s (xs ++ ys) }, ?_, ?_, ?_, ?_, ?_⟩
  · intro xs' ys' h
    simp only [List.cons.injEq, Pl.row.injEq, and_true, true_and] at h
    obtain ⟨rfl, rfl⟩ := h
    refine ⟨rfl, rfl, ?_⟩
    rw [← List.length_append, e3, e2]
  · show _ = Ending.returned (Value.slice _ _ _)
    rw [← e1]
  · intro x hx
    have hv2 : At.val { out0 with s := fun _ => slcOf v', p := fun j => if j = 1 then Pl.row e s ys else Pl.row e s (xs ++ ys) } (.slc 0) = v' := e1.symm
    simp only [newsL, afterL, rowApp, reduceCtorEq, if_false, if_true, List.cons_append, List.nil_append, List.mem_cons, List.not_mem_nil, or_false, argV1, List.getD_cons_succ, argV0, List.getD_cons_zero, hv2, Nat.zero_add, Nat.reduceEqDiff] at hx
    have hup : ∀ i, v.ownBlock = some i → upFoot PI [v, u] (rowApp t e s bytes tag).needs [.row e s xs, .row e s ys] i := fun i hi => by
      simp only [upFoot, rowApp, argV1, List.getD_cons_succ, argV0, List.getD_cons_zero]
      exact .inl ⟨by simp, by show Pl.foot _ _ i; simpa only [Pl.foot] using hi⟩
    rcases hx with rfl | rfl
    · refine ⟨?_, fun i hi => ?_, fun i hi => ?_, fun h => by cases h⟩
      · show Pl.holds _ _ _
        simp only [Pl.holds]
        exact ⟨ht.pos, _, ho⟩
      · change Pl.foot _ _ i at hi
        simp only [Pl.foot] at hi
        exact (hnew i hi).imp (hup i) id
      · change Pl.sh _ _ i at hi
        simp [Pl.sh] at hi
    · refine ⟨?_, fun i hi => ?_, fun i hi => ?_, fun h => by cases h⟩
      · show Pl.holds _ _ _
        simp only [Pl.holds]
        exact ⟨ht.pos, _, hu'⟩
      · change Pl.foot _ _ i at hi
        simp only [Pl.foot] at hi
        simp only [upFoot, rowApp, argV1, List.getD_cons_succ, argV0, List.getD_cons_zero]
        exact .inl (.inr (.inl ⟨by simp, by show Pl.foot _ _ i; simpa only [Pl.foot] using hi⟩))
      · change Pl.sh _ _ i at hi
        simp [Pl.sh] at hi
  · have hv2 : At.val { out0 with s := fun _ => slcOf v', p := fun j => if j = 1 then Pl.row e s ys else Pl.row e s (xs ++ ys) } (.slc 0) = v' := e1.symm
    simp only [newsL, afterL, rowApp, reduceCtorEq, if_false, if_true, List.cons_append, List.nil_append, argV1, List.getD_cons_succ, argV0, List.getD_cons_zero, hv2, Nat.zero_add, Nat.reduceEqDiff, List.pairwise_cons, List.mem_singleton, forall_eq, List.not_mem_nil, false_implies, implies_true, List.Pairwise.nil, and_true]
    intro i
    refine ⟨fun hi => ⟨fun hj => ?_, fun hj => ?_⟩, fun hi hj => ?_⟩
    · change Pl.foot _ _ i at hi hj
      simp only [Pl.foot] at hi hj
      rcases hnew i hi with h | h
      · exact hne i hj h
      · have := ownBlock_lt hu hj
        omega
    · change Pl.sh _ _ i at hj
      simp [Pl.sh] at hj
    · change Pl.sh _ _ i at hj
      simp [Pl.sh] at hj
  · refine fr_grown hg _ fun i hi => ?_
    simp only [upFoot, rowApp, argV1, List.getD_cons_succ, argV0, List.getD_cons_zero]
    exact .inl ⟨by simp, by show Pl.foot _ _ i; simpa only [Pl.foot] using hi⟩
end Go.Sx

namespace Go.Sx
open Go

theorem foot_row {T s : Nat} {xs : List Value} {v : Value} {i : Nat} : PI.foot (.row T s xs) v i ↔ v.ownBlock = some i := by show Pl.foot _ _ i ↔ _; simp only [Pl.foot]
theorem sh_row {T s : Nat} {xs : List Value} {v : Value} {i : Nat} : ¬ PI.sh (.row T s xs) v i := by show ¬ Pl.sh _ _ i; simp [Pl.sh]
theorem holds_row {T s : Nat} {xs : List Value} {v : Value} {w : World} : PI.holds (.row T s xs) v w ↔ 0 < s ∧ ∃ n, w.ownsRow 0 T s v n xs := by show Pl.holds _ _ _ ↔ _; simp only [Pl.holds]
/-- behind nothing. -/
def rowAppNil (t e s bytes tag : Nat) : Row Pl where
  f := .app t t
  needs := [(1, tag, .tu)]
  ret := .one (.slc 0)
  news := [(tag, 2, .slc 0, true)]
  width := 3
  pre vs ps := ∃ u, vs = [.slice none 0 0, u] ∧ ∃ ys, ps = [.row e s ys] ∧ ys.length * bytes ≤ 140737488355328 ∧ ys.length ≤ maxLen ∧ ∀ u ∈ ys, u.oneCell' = true
  rel _ ps o := ∀ ys, ps = [.row e s ys] → o.p 2 = .row e s ys ∧ o.p 0 = .row e s ys ∧ (o.s 0).2.1 * s = ys.length
theorem rowAppNil_ok {P : Program} {t e s bytes : Nat} {z : List Value} (ht : RowTy P t e s bytes z) (tag : Nat) : RowOK P PI (rowAppNil t e s bytes tag) := by
  intro vs ps w hneed hsep hper hpre
  obtain ⟨u, rfl, ys, rfl, hb, hm, h1⟩ := hpre
  have hn := hneed
  simp only [needL, rowAppNil, argV1, List.getD_cons_succ, List.getD_cons_zero, holds_row] at hn
  obtain ⟨⟨-, m, hu⟩, -⟩ := hn
  intro ty
  obtain ⟨v', w', hr, ho, hg, hnew⟩ := app_run ht (World.ownsRow_nil w 0 e s) (owns_reads hu) (by simpa using hb) (by simpa using hm) h1 ty
  simp only [List.nil_append, Nat.zero_add] at ho
  obtain ⟨e1, e2, e3⟩ := owns_slice ho
  have hu' : w'.ownsRow 0 e s u m ys := ownsRow_step hu fun i hi => hg.block i (ownBlock_lt hu hi) fun e => by cases e
  have hlt : ∀ i, v'.ownBlock = some i → w.heap.size ≤ i := fun i hi => (hnew i hi).elim (fun h => by cases h) id
  have hv2 : At.val { out0 with s := fun _ => slcOf v', p := fun _ => Pl.row e s ys } (.slc 0) = v' := e1.symm
  refine ⟨v', w', hr, { out0 with s := fun _ => slcOf v', p := fun _ => .row e s ys }, ?_, ?_, ?_, ?_, ?_⟩
  · intro ys' h
    simp only [List.cons.injEq, Pl.row.injEq, and_true, true_and] at h
    subst h
    exact ⟨rfl, rfl, by rw [e3, e2]⟩
  · show _ = Ending.returned (Value.slice _ _ _)
    rw [← e1]
  · intro x hx
    simp only [newsL, afterL, rowAppNil, if_true, List.cons_append, List.nil_append, List.mem_cons, List.not_mem_nil, or_false, argV1, List.getD_cons_succ, List.getD_cons_zero, hv2] at hx
    rcases hx with rfl | rfl
    · exact ⟨holds_row.2 ⟨ht.pos, _, ho⟩, fun i hi => .inr (hlt i (foot_row.1 hi)), fun i hi => absurd hi sh_row, fun h => by cases h⟩
    · refine ⟨holds_row.2 ⟨ht.pos, _, hu'⟩, fun i hi => .inl ?_, fun i hi => absurd hi sh_row, fun h => by cases h⟩
      simp only [upFoot, rowAppNil, argV1, List.getD_cons_succ, List.getD_cons_zero]
      exact .inl ⟨by simp, hi⟩
  · simp only [newsL, afterL, rowAppNil, if_true, List.cons_append, List.nil_append, argV1, List.getD_cons_succ, List.getD_cons_zero, hv2, List.pairwise_cons, List.mem_singleton, forall_eq, List.not_mem_nil, false_implies, implies_true, List.Pairwise.nil, and_true]
    intro i
    refine ⟨fun hi => ⟨fun hj => ?_, sh_row⟩, fun _ => sh_row⟩
    have := hlt i (foot_row.1 hi)
    have := ownBlock_lt hu (foot_row.1 hj)
    omega
  · exact fr_grown hg _ fun i hi => by cases hi

/-- an element is written. -/
def rowSt (T s tag : Nat) : Row Pl where
  f := .st T s
  needs := [(0, tag, .tu)]
  ret := .tup []
  news := []
  width := 1
  pre vs ps := ∃ v k i x xs, vs = [v, .int k i, x] ∧ ps = [.row T s xs] ∧ 0 ≤ i ∧ (i.toNat + 1) * s ≤ xs.length ∧ x.cells.size = s ∧ ∀ u ∈ x.cells.toList, u.oneCell' = true
  rel vs ps o := ∀ v k i x xs, vs = [v, .int k i, x] → ps = [.row T s xs] → o.p 0 = .row T s (putV xs (i.toNat * s) x.cells.toList)
theorem putV_take : ∀ (l : List Value) (n : Nat) (vs : List Value) (m : Nat), n + vs.length ≤ m → (putV l n vs).take m = putV (l.take m) n vs
  | [], n, vs, m, _ => by cases vs <;> simp [putV]
  | x :: l, n, [], m, _ => by simp [putV, putV_nil]
  | x :: l, 0, v :: vs, 0, h => by simp at h
  | x :: l, 0, v :: vs, m + 1, h => by
    simp only [putV, List.take_succ_cons]
    rw [putV_take l 0 vs m (by simp at h; omega)]
  | x :: l, n + 1, v :: vs, 0, h => by simp at h
  | x :: l, n + 1, v :: vs, m + 1, h => by
    simp only [putV, List.take_succ_cons]
    rw [putV_take l n (v :: vs) m (by simp at h ⊢; omega)]
theorem rowSt_ok {P : Program} {T s : Nat} (hsz : sizeX P T = some s) (tag : Nat) (hpos : 0 < s) : RowOK P PI (rowSt T s tag) := by
  intro vs ps w hneed hsep hper hpre
  obtain ⟨v, k, i, x, xs, rfl, rfl, hi, hlen, hxs, hx1⟩ := hpre
  have hn := hneed
  simp only [needL, rowSt, argV0, List.getD_cons_zero, holds_row] at hn
  obtain ⟨⟨-, n, hv⟩, -⟩ := hn
  rcases hv.2 with ⟨rfl, rfl⟩ | ⟨g, cap, cur, rfl, hb, hg, hle, hm, hcs, htk⟩
  · have hx : xs = [] := by simpa using hv.1
    subst hx
    have : 0 < (i.toNat + 1) * s := Nat.mul_pos (by omega) hpos
    simp at hlen
    omega
  · have hl := hv.1
    have hmul : n * s ≤ cap * s := Nat.mul_le_mul_right _ hle
    have hg' : w.heap[g]? = some (.cells cur.toList.toArray T (0, 0)) := by simpa using hg
    have hxl : x.cells.toList.length = s := by simpa using hxs
    have hfit : i.toNat * s + s ≤ xs.length := by rw [Nat.succ_mul] at hlen; exact hlen
    have hst := storeCells_run (P := P) x.cells.toList 0 (i.toNat * s) w cur.toList hg' hx1 (by rw [hxl, Array.length_toList, hcs]; omega)
    have hne : x.cells.toList ≠ [] := fun e => by rw [e] at hxl; simp at hxl; omega
    rw [if_neg hne, Nat.add_zero] at hst
    have hrun : (Instr.storeAt T (elemAddr s [.slice (some ⟨g, 0, none⟩) n cap, .int k i, x]) x).run P w = .ok () (w.setRow g (putV cur.toList (i.toNat * s) x.cells.toList).toArray) := by
      simp only [elemAddr, Option.map_some, add_at, Nat.zero_add]
      simp only [Instr.storeAt, Sem.run_bind, Instr.sureAddr, Sem.run_pure, Result.andThen_ok, storeVar, run_sizeOf hsz]
      rw [if_neg (by simpa using hxs)]
      exact hst
    refine ⟨_, hrun, { out0 with p := fun _ => .row T s (putV xs (i.toNat * s) x.cells.toList) }, ?_, rfl, ?_, ?_, ?_⟩
    · intro v' k' i' x' xs' h1 h2
      simp only [List.cons.injEq, Value.int.injEq, and_true, Pl.row.injEq, true_and] at h1 h2
      obtain ⟨rfl, ⟨rfl, rfl⟩, rfl⟩ := h1
      subst h2
      rfl
    · intro y hy
      simp only [newsL, afterL, rowSt, if_true, List.nil_append, List.mem_singleton, argV0, List.getD_cons_zero] at hy
      subst hy
      refine ⟨holds_row.2 ⟨hpos, n, ?_, .inr ⟨g, cap, _, rfl, hb, setRow_heap w g _ _ T (0, 0) hg, hle, hm, ?_, ?_⟩⟩, fun i hi => .inl ?_, fun i hi => absurd hi sh_row, fun h => by cases h⟩
      · rw [putV_len, hl]
      · simp [putV_len, hcs]
      · show (putV cur.toList (i.toNat * s) x.cells.toList).toArray.toList.take (n * s) = _
        rw [List.toList_toArray, putV_take _ _ _ _ (by rw [hxl, ← hl]; exact hfit), htk]
      · simp only [upFoot, rowSt, argV0, List.getD_cons_zero]
        exact .inl ⟨by simp, hi⟩
    · simp [newsL, afterL, rowSt]
    · refine ⟨rfl, rfl, rfl, by simp, fun j hj hn => setRow_other w g j _ fun e => hn ?_⟩
      simp only [upFoot, rowSt, argV0, List.getD_cons_zero]
      exact .inl ⟨by simp, foot_row.2 (by rw [e]; rfl)⟩
end Go.Sx

namespace Go.Sx
open Go

/-- no row is one without elements. -/
def rowNil (T s tag : Nat) : Row Pl where
  f := .nilr T s
  needs := []
  ret := .one (.slc 0)
  news := [(tag, 0, .slc 0, true)]
  width := 1
  pre _ _ := True
  rel _ _ o := o.p 0 = .row T s [] ∧ o.s 0 = (none, 0, 0)
theorem rowNil_ok (P : Program) {T s : Nat} (tag : Nat) (h0 : 0 < s) : RowOK P PI (rowNil T s tag) := by
  intro vs ps w hneed hsep hper hpre
  refine ⟨{ out0 with p := fun _ => .row T s [] }, ⟨rfl, rfl⟩, rfl, ?_, by simp [newsL, afterL, rowNil], Fr.refl _ _⟩
  intro x hx
  simp only [newsL, afterL, rowNil, List.append_nil, List.mem_singleton] at hx
  subst hx
  exact ⟨holds_row.2 ⟨h0, 0, World.ownsRow_nil w 0 T s⟩, fun i hi => (by cases foot_row.1 hi), fun i hi => absurd hi sh_row, fun h => (by cases h)⟩

/-- what the program says of a type of rows, looked up. -/
def rowTyB (P : Program) (t e s bytes : Nat) : Bool :=
  (match P.underlying t with
  | some (.slice x) => decide (x = e)
  | _ => false) &&
  (match P.info? e with
  | some i => decide (i.size = s) && decide (i.bytes = bytes) && (match i.zero with
    | some v => (match SV.ofV 50 v with
      | some x => decide (x.cells.length = s)
      | none => false)
    | none => false)
  | none => false) && decide (0 < s)
theorem rowTy {P : Program} {t e s bytes : Nat} (h : rowTyB P t e s bytes = true) : ∃ z, RowTy P t e s bytes z := by
  simp only [rowTyB, Bool.and_eq_true, decide_eq_true_eq] at h
  obtain ⟨⟨h1, h2⟩, h3⟩ := h
  split at h1
  · rename_i x hu
    have h1 := of_decide_eq_true h1
    subst h1
    split at h2
    · rename_i i hi
      simp only [Bool.and_eq_true, decide_eq_true_eq] at h2
      obtain ⟨⟨ha, hb⟩, hc⟩ := h2
      split at hc
      · rename_i v hv
        split at hc
        · rename_i y hy
          have e := ofV_den (Pl := Pl) out0 _ _ _ hy
          refine ⟨SV.dens out0 y.cells, hu, ⟨i, hi, ha, hb, v, hv, ?_⟩, ?_, h3⟩
          · rw [← e, cells_den]
          · rw [dens_len]
            exact of_decide_eq_true hc
        · cases hc
      · cases hc
    · cases h2
  · cases h1
section
variable {C C' : Cfg} {I : Interp Pl} {F F' : Foot} {w w' : World} {R : List (Row Pl)} {LS : List (LoopS Pl)} {L L' : Env Pl → SV → List Blk → List Res → Prop}
end
theorem RowOK.weaken {P : Program} {r : Row Pl} (h : RowOK P PI r) {pre : List Value → List Pl → Prop} {rel : List Value → List Pl → Out Pl → Prop} (h1 : ∀ vs ps, pre vs ps → r.pre vs ps)
    (h2 : ∀ vs ps o, pre vs ps → r.rel vs ps o → (∃ w', ∀ x ∈ newsL o r.news ++ afterL o vs r.needs 0, Pl.holds x.1 x.2.1 w') → rel vs ps o) : RowOK P PI { r with pre := pre, rel := rel } := by
  intro vs ps w hn hs hp hpre
  exact (h vs ps w hn hs hp (h1 vs ps hpre)).mono fun e w' ⟨o, ho, h3, h4, h5, h6⟩ => ⟨o, h2 vs ps o hpre ho ⟨w', fun x hx => (h4 x hx).1⟩, h3, h4, h5, h6⟩
abbrev slcV (a : Option Addr × Nat × Nat) : Value := .slice a.1 a.2.1 a.2.2
theorem own_facts {T s : Nat} {xs : List Value} {a : Option Addr × Nat × Nat} {w : World} (h : Pl.holds (.row T s xs) (slcV a) w) : xs.length = a.2.1 * s ∧ (xs ≠ [] → a.1.isSome = true) := by
  simp only [Pl.holds] at h
  obtain ⟨h0, n, h⟩ := h
  obtain ⟨h1, h2, h3⟩ := owns_slice h
  refine ⟨by rw [h3, ← h2]; rfl, fun hne => ?_⟩
  rcases h.2 with ⟨e, rfl⟩ | ⟨g, cap, cur, e, _⟩
  · have := h.1
    simp at this
    exact absurd this hne
  · simp only [slcV, Value.slice.injEq] at e
    rw [e.1]
    rfl
/-- a slice of so many cells. -/
def SlcOK (a : Option Addr × Nat × Nat) (s n : Nat) : Prop := n = a.2.1 * s ∧ (0 < n → a.1.isSome = true)
theorem own_slc {T s : Nat} {xs : List Value} {a : Option Addr × Nat × Nat} {w : World} (h : Pl.holds (.row T s xs) (slcV a) w) : SlcOK a s xs.length :=
  ⟨(own_facts h).1, fun h0 => (own_facts h).2 fun e => by rw [e] at h0; simp at h0⟩
/-- a row, and another one behind it. -/
def rowApp2 (t e s bytes tag : Nat) : Row Pl := { rowApp t e s bytes tag with
  pre := fun vs ps => ∃ (v u : Value) (xs ys : List Value), vs = [v, u] ∧ ps = [.row e s xs, .row e s ys] ∧ (xs.length + ys.length) * bytes ≤ 140737488355328 ∧ xs.length + ys.length ≤ maxLen ∧ ∀ u ∈ ys, u.oneCell' = true
  rel := fun _ ps o => ∀ (xs ys : List Value), ps = [.row e s xs, .row e s ys] → o.p 2 = .row e s (xs ++ ys) ∧ o.p 1 = .row e s ys ∧ SlcOK (o.s 0) s (xs.length + ys.length) }
theorem rowApp2_ok {P : Program} {t e s bytes : Nat} (ht : rowTyB P t e s bytes = true) (tag : Nat) : RowOK P PI (rowApp2 t e s bytes tag) := by
  obtain ⟨z, hz⟩ := rowTy ht
  refine RowOK.weaken (rowApp_ok hz tag) ?_ ?_
  · rintro vs ps ⟨v, u, xs, ys, rfl, rfl, h⟩
    exact ⟨v, u, rfl, xs, ys, rfl, h⟩
  · rintro vs ps o - hr ⟨w', hw⟩ xs ys e
    obtain ⟨h1, h2, -⟩ := hr xs ys e
    have h3 := hw _ (List.mem_append_left _ (List.mem_cons_self ..))
    simp only [h1] at h3
    have := own_slc h3
    rw [List.length_append] at this
    exact ⟨h1, h2, this⟩
def rowBS2 (T s n tag : Nat) : Row Pl := { rowBS T s n tag with
  rel := fun vs _ o => o.p 0 = .row T s vs ∧ SlcOK (o.s 0) s vs.length }
theorem rowBS2_ok (P : Program) (T s n tag : Nat) : RowOK P PI (rowBS2 T s n tag) := by
  refine RowOK.weaken (rowBS_ok P T s n tag) (fun _ _ h => h) ?_
  rintro vs ps o - hr ⟨w', hw⟩
  have h3 := hw _ (List.mem_append_left _ (List.mem_cons_self ..))
  simp only [hr.1] at h3
  exact ⟨hr.1, own_slc h3⟩
end Go.Sx

