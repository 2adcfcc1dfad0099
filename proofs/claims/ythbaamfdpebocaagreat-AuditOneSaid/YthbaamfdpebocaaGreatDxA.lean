import Derived.Test.YthbaamfdpebocaaGreatSxA
import Derived.Laws.StructEq
import Derived.LoopN
namespace Go.Sx
open Go

/-- a number, as a numeral. -/
def forceN {α : Type} (n : Nat) (k : Nat → α) : α := match n with
  | 0 => k 0
  | n + 1 => k (n + 1)
theorem forceN_eq {α : Type} (n : Nat) (k : Nat → α) : forceN n k = k n := by cases n <;> rfl

/-- what a row holds: elements' type, their size, how many, cells. -/
structure EnD where
  T : Nat
  s : Nat
  n : Nat
  cells : List SV

/-- a state on literals: what is held (rows), by payloads' names. -/
structure DS where
  st : St
  en : List (Nat × EnD)

def keyP : List Res → Nat → Option Nat
  | [], _ => none
  | r :: l, x => match r.key with
    | .slc y => if y = x then some r.p else keyP l x
    | _ => keyP l x
def DS.row (d : DS) (x : Nat) : Option (Nat × EnD) :=
  match keyP d.st.res x with
  | some p => match look d.en p with
    | some e => some (p, e)
    | none => none
  | none => none
def DS.len (d : DS) (x : Nat) : Option Nat := match d.row x with
  | some (_, e) => some e.n
  | none => none

def DS.env (d : DS) : Env Unit := ⟨fun _ => 0, fun _ => false, fun _ => 0, fun x => match d.len x with
  | some n => (if n = 0 then none else some ⟨0, 0, none⟩, n, 0)
  | none => (none, 0, 0), fun _ => ()⟩

def IE.okd (d : DS) : IE → Bool
  | .lit _ => true
  | .var _ => false
  | .len x => (d.len x).isSome
  | .wrap _ a => a.okd d
  | .add a b | .sub a b | .mul a b | .quo a b | .rem a b | .mn a b | .mx a b => a.okd d && b.okd d
  | .shl _ a b | .bits _ _ a b => a.okd d && b.okd d
  | .shr a _ => a.okd d
def BE.okd (d : DS) : BE → Bool
  | .lit _ => true
  | .var _ => false
  | .not a => a.okd d
  | .eq a b | .lt a b | .le a b => a.okd d && b.okd d
  | .and a b | .beq a b => a.okd d && b.okd d
  | .sm x => match d.len x with
    | some n => !(n == 0)
    | none => false

def IE.fix (d : DS) (e : IE) : Option IE :=
  match e with
  | .lit n => some (.lit n)
  | e => match e.okd d with
    | true => match e.den d.env with
      | .ofNat n => match n == 0 with
        | true => some (.lit 0)
        | false => some (.lit (.ofNat n))
      | .negSucc n => match n == 0 with
        | true => some (.lit (-1))
        | false => some (.lit (.negSucc n))
    | false => none
def BE.fix (d : DS) (e : BE) : Option BE :=
  match e with
  | .lit b => some (.lit b)
  | e => match e.okd d with
    | true => match e.den d.env with
      | true => some (.lit true)
      | false => some (.lit false)
    | false => none
mutual
def SV.fix (d : DS) : SV → Option SV
  | .bool b => match b.fix d with
    | some b => some (.bool b)
    | none => none
  | .int k e => match e.fix d with
    | some e => some (.int k e)
    | none => none
  | .ptr x o => some (.ptr x o)
  | .nilptr => some .nilptr
  | .slc x => some (.slc x)
  | .nilslc => some .nilslc
  | .row _ _ _ _ => none
  | .func f a b => match SV.fixs d a, SV.fixs d b with
    | some a, some b => some (.func f a b)
    | _, _ => none
  | .nilFunc => some .nilFunc
  | .iface t v => match SV.fix d v with
    | some v => some (.iface t v)
    | none => none
  | .nilIface => some .nilIface
  | .agg cs => match SV.fixs d cs with
    | some cs => some (.agg cs)
    | none => none
  | .tup cs => match SV.fixs d cs with
    | some cs => some (.tup cs)
    | none => none
  | .elem x e s => match e.fix d with
    | some e => some (.elem x e s)
    | none => none
  | .mptr _ _ => none
def SV.fixs (d : DS) : List SV → Option (List SV)
  | [] => some []
  | v :: l => match SV.fix d v, SV.fixs d l with
    | some v, some l => some (v :: l)
    | _, _ => none
end

def needsD (d : DS) : List BE → Bool
  | [] => true
  | b :: l => b.okd d && b.den d.env && needsD d l

def DS.put (d : DS) (t : Option Nat) (v : SV) : DS := match d with
  | ⟨⟨fn, nt, ctr, tmps, heap, res, asm⟩, en⟩ => match t with
    | some t => match decide (t < nt) with
      | true => ⟨⟨fn, nt, ctr, (t, v) :: tmps, heap, res, asm⟩, en⟩
      | false => ⟨⟨fn, nt, ctr, tmps, heap, res, asm⟩, en⟩
    | none => ⟨⟨fn, nt, ctr, tmps, heap, res, asm⟩, en⟩

/-- a slot's value that is not the last one is dropped. -/
def compact : List (Nat × SV) → List Nat → List (Nat × SV)
  | [], _ => []
  | (t, v) :: l, seen => match seen.any (Nat.beq t) with
    | true => compact l seen
    | false => (t, v) :: compact l (t :: seen)
/-- slots that are read later on. -/
def prune (live : List Nat) (l : List (Nat × SV)) (seen : List Nat) : List (Nat × SV) := match l with
  | [] => []
  | (t, v) :: l => match live.any (Nat.beq t) with
    | true => match seen.any (Nat.beq t) with
      | true => prune live l seen
      | false => (t, v) :: prune live l (t :: seen)
    | false => prune live l seen

/-! rows -/
def bytesX (P : Program) (e : Nat) : Option (Nat × Nat) := (P.info? e).map fun i => (i.size, i.bytes)

/-- a row that is nil is held. -/
def matD (T s : Nat) (v : SV) (d : DS) : Option (SV × DS) :=
  match v with
  | .nilslc => if 0 < s then some (.slc d.st.ctr, { st := { d.st with ctr := d.st.ctr + 1, res := { tag := 0, p := d.st.ctr, key := .slc d.st.ctr, own := true } :: d.st.res }, en := (d.st.ctr, ⟨T, s, 0, []⟩) :: d.en }) else none
  | .slc x => some (.slc x, d)
  | _ => none

def isRow (r : Res) (x : Nat) : Bool := match r.key with
  | .slc y => Nat.beq y x && Nat.beq r.tag 0
  | _ => false
def pullQ : List Res → Nat → Option (Res × List Res)
  | [], _ => none
  | r :: l, x => match isRow r x with
    | true => some (r, l)
    | false => match pullQ l x with
      | some (s, m) => some (s, r :: m)
      | none => none
/-- the first row is let go, if nothing names it. -/
def popE (en : List (Nat × EnD)) (p : Nat) (rest : List Res) : List (Nat × EnD) := match en with
  | [] => []
  | (k, e) :: l => match Nat.beq k p && rest.all (fun r => !(Nat.beq r.p k)) with
    | true => l
    | false => (k, e) :: l
def appD (P : Program) (t u : Nat) (args : List SV) (d : DS) : Option (SV × DS) :=
  if t = u then
    match P.underlying t with
    | some (.slice e) => match bytesX P e with
      | some (s, bytes) => match args with
        | [a, b] => match matD e s a d with
          | some (a, d) => match matD e s b d with
            | some (.slc y, d) => match a with
              | .slc x => match d.row x, d.row y with
                | some (p, ex), some (q, ey) =>
                  if rowTyB P t e s bytes && decide (ex.T = e) && decide (ey.T = e) && decide (ex.s = s) && decide (ey.s = s) && Nat.ble ((ex.n * s + ey.n * s) * bytes) 140737488355328 && Nat.ble (ex.n * s + ey.n * s) 1000000 && ey.cells.all SV.flat then
                    match pullQ d.st.res x with
                    | some (r1, rest) => match pullQ rest y with
                      | some (r2, rest) => if r1.own && r2.own && Nat.beq r1.p p && Nat.beq r2.p q then
                          (match d with
                          | ⟨⟨fn, nt, ctr, tmps, heap, _, asm⟩, en⟩ => forceN (ctr + 1) fun c1 => forceN (ctr + 2) fun c2 => forceN (ctr + 3) fun c3 => forceN (ex.n + ey.n) fun n =>
                            match Nat.beq (y + 1) ctr with
                            | true => some (.slc ctr, ⟨⟨fn, nt, c3, tmps, heap, { tag := 0, p := c2, key := .slc ctr, own := true } :: rest, asm⟩, (c2, ⟨e, s, n, ex.cells ++ ey.cells⟩) :: popE (popE en q rest) p rest⟩)
                            | false => some (.slc ctr, ⟨⟨fn, nt, c3, tmps, heap, { tag := 0, p := c2, key := .slc ctr, own := true } :: { r2 with p := c1 } :: rest, asm⟩, (c2, ⟨e, s, n, ex.cells ++ ey.cells⟩) :: (c1, ey) :: popE en p rest⟩)) else none
                      | none => none
                    | none => none
                  else none
                | _, _ => none
              | _ => none
            | _ => none
          | none => none
        | _ => none
      | none => none
    | _ => none
  else none

def bsD (T s n : Nat) (args : List SV) (d : DS) : Option (SV × DS) :=
  if args.length = n * s && decide (0 < s) && decide (n ≤ 1000000) && SV.los d.st.ctr args then
    some (.slc d.st.ctr, { st := { d.st with ctr := d.st.ctr + 1, res := { tag := 0, p := d.st.ctr, key := .slc d.st.ctr, own := true } :: d.st.res }, en := (d.st.ctr, ⟨T, s, n, args⟩) :: d.en })
  else none

def repX : Nat → List SV → List SV
  | 0, _ => []
  | n + 1, z => z ++ repX n z
def mkD (P : Program) (t : Nat) (args : List SV) (d : DS) : Option (SV × DS) :=
  match args with
  | [.int _ (.lit (.ofNat n)), .int _ (.lit (.ofNat m))] => if n = m && decide (n ≤ 1000000) then (match P.underlying t with
    | some (.slice e) => match bytesX P e, zeroX P e with
      | some (s, bytes), some z => if decide (0 < s) && decide (z.cells.length = s) && decide (bytes * n ≤ 140737488355328) then
          some (.slc d.st.ctr, { st := { d.st with ctr := d.st.ctr + 1, res := { tag := 0, p := d.st.ctr, key := .slc d.st.ctr, own := true } :: d.st.res }, en := (d.st.ctr, ⟨e, s, n, repX n z.cells⟩) :: d.en })
        else none
      | _, _ => none
    | _ => none) else none
  | _ => none

/-- an element, as it is read. -/
def ldD (P : Program) (T s : Nat) (d : DS) (x i : Nat) : Option SV :=
  match d.row x with
  | some (_, e) => if e.s = s && decide (i < e.n) then (match isAggB P T, sizeX P T with
      | some true, some m => if m = s then some (.agg (cutX e.cells (i * s) s)) else none
      | some false, some m => if m = 1 && s == 1 then e.cells[i]? else none
      | _, _ => none) else none
  | none => none

def stD (P : Program) (T s : Nat) (d : DS) (x i : Nat) (v : SV) : Option DS :=
  match d.row x with
  | some (p, e) => if decide (e.T = T) && decide (e.s = s) && decide (i < e.n) && decide (sizeX P T = some s) && decide (0 < s) && decide (v.cells.length = s) && v.cells.all SV.flat && SV.lo d.st.ctr v then
      match (rowSt T s 0).toRowX.apply [.slc x, .int .i64 (.lit (.ofNat i)), v] d.st with
      | some ([p'], _, st') => if p' = p then some { st := st', en := (d.st.ctr, ⟨T, s, e.n, putX e.cells (i * s) v.cells⟩) :: d.en } else none
      | _ => none
    else none
  | none => none

/-! plans -/
mutual
inductive RP where
  | done
  | bad
  | op (i : Nat) (o : Oper) (g : Option (Nat × Bool)) (k : RP)
  | take (i : Nat) (o : Oper) (g : Option (Nat × Bool)) (k : RP)
  | held (i : Nat) (o : Oper) (g : Option (Nat × Bool)) (k : RP)
  | all (l : RPs)
inductive RPs where
  | nil
  | cons (i : Nat) (o : Oper) (g : Option (Nat × Bool)) (k : RP) (l : RPs)
end

def guardD (ops : Array Oper) (o : Oper) : Option (Option (Nat × Bool)) :=
  match o.guard with
  | none => some none
  | some (j, want) => match (ops[j]?).bind (·.dst) with
    | some t => some (some (t, want))
    | none => none

def isLoad (o : Oper) : Bool := match o.op with
  | .load .. => true
  | _ => false

/-- which may be taken at once; of the loads not those that are told. -/
def takeI (ops : Array Oper) (listed : Array Bool) (bad : List Nat) (loads : Bool) : List Nat → Option (Nat × Oper)
  | [] => none
  | i :: l => match ops[i]? with
    | none => none
    | some o => if (isTake o || (loads && isLoad o && !(bad.any (Nat.beq i)))) && Region.free .any ops listed i then some (i, o) else takeI ops listed bad loads l

def planS (ops : Array Oper) : List Nat → RP
  | [] => .done
  | i :: l => match ops[i]? with
    | none => .bad
    | some o => match guardD ops o with
      | none => .bad
      | some g => .op i o g (planS ops l)
def planL (ops : Array Oper) (listed : Array Bool) (f : Array Bool → RP) : List Nat → RPs
  | [] => .nil
  | i :: l => match ops[i]? with
    | none => .cons i default none .bad (planL ops listed f l)
    | some o => match guardD ops o with
      | none => .cons i o none .bad (planL ops listed f l)
      | some g => .cons i o g (f (listed.setIfInBounds i true)) (planL ops listed f l)
def planA (ops : Array Oper) (loads : List Nat) : Nat → Array Bool → RP
  | 0, listed => match Region.ready .any ops listed with
    | [] => .done
    | _ => .bad
  | m + 1, listed => match Region.ready .any ops listed with
    | [] => .done
    | rs => match takeI ops listed loads (decide (1 < rs.length)) rs with
        | some (i, o) => match guardD ops o with
          | some g => if isTake o then .take i o g (planA ops loads m (listed.setIfInBounds i true)) else .held i o g (planA ops loads m (listed.setIfInBounds i true))
          | none => .bad
        | none => match rs with
          | [i] => match ops[i]? with
            | none => .bad
            | some o => match guardD ops o with
              | none => .bad
              | some g => .op i o g (planA ops loads m (listed.setIfInBounds i true))
          | rs => .all (planL ops listed (planA ops loads m) rs)

def tmpsOf (xs : List Operand) : List Nat := xs.filterMap fun | .tmp t => some t | _ => none
/-- slots that a region reads ahead of its own writing. -/
def exposed : List Oper → List Nat → List Nat → List Nat
  | [], _, acc => acc
  | o :: l, w, acc => exposed l (match o.dst with
    | some t => t :: w
    | none => w) (((tmpsOf o.op.operands.toList).filter fun t => !(w.any (Nat.beq t) || acc.any (Nat.beq t))) ++ acc)
def liveC : Code → List Nat → List Nat
  | .region _ ops _, acc => exposed ops.toList [] acc
  | .seq a b, acc => liveC a (liveC b acc)
  | .cond c a b, acc => tmpsOf [c] ++ liveC a (liveC b acc)
  | .block _ c, acc => liveC c acc
  | .loop c, acc => liveC c acc
  | _, acc => acc
def liveR (l : List ResultVar) : List Nat := l.map fun
  | .tmp t => t
  | .cell a _ => a
/-- code, laid out for its run. -/
inductive DC where
  | skip | bad | ret
  | seq (a b : DC)
  | cond (c : Operand) (a b : DC)
  | block (id : Nat) (c : DC)
  | loop (c : DC)
  | exit (id : Nat)
  | line (p : RP)
  | reg (ops : Array Oper) (p : RP)
def DC.of : Code → DC
  | .skip => .skip
  | .label _ => .skip
  | .ret => .ret
  | .seq a b => .seq (DC.of a) (DC.of b)
  | .cond c a b => .cond c (DC.of a) (DC.of b)
  | .block id c => .block id (DC.of c)
  | .loop c => .loop (DC.of c)
  | .exit id => .exit id
  | .region _ ops draw => if draw then (if Region.noSelect ops then .reg ops (planA ops [] ops.size (Array.replicate ops.size false)) else .bad) else .line (planS ops (List.range ops.size))
  | _ => .bad

/-! what is held -/
structure HdX where
  T : Nat
  a : SV
  v : SV

def loadD (P : Program) (d : DS) (T : Nat) (a : SV) : Option SV :=
  match a with
  | .elem x (.lit (.ofNat i)) s => ldD P T s d x i
  | .ptr x o => loadX P d.st T (.ptr x o)
  | _ => none
def holdD (P : Program) (d : DS) : List HdX → Bool
  | [] => true
  | h :: l => (match loadD P d h.T h.a with
    | some v => SV.beq v h.v
    | none => false) && holdD P d l
def inHold (T : Nat) (a v : SV) : List HdX → Bool
  | [] => false
  | h :: l => (h.T == T && SV.beq a h.a && SV.beq v h.v) || inHold T a v l

/-- is it wanted? -/
def wantD (d : DS) (g : Option (Nat × Bool)) : Option Bool :=
  match g with
  | none => some true
  | some (t, want) => match look d.st.tmps t with
    | some (.bool (.lit b)) => some (b == want)
    | _ => none

noncomputable section
/-! what is run often, laid out once for each operation -/
structure VF where
  f : DS → Option SV
def lookR (l : List (Nat × SV)) (t : Nat) : Option SV := List.rec none (fun x _ ih => match Nat.beq x.1 t with
  | true => some x.2
  | false => ih) l
def blkR (l : List Blk) (x : Nat) : Option (List SV) := List.rec none (fun b _ ih => match Nat.beq b.x x with
  | true => some b.cs
  | false => ih) l
def getR (l : List SV) : Nat → Option SV := List.rec (fun _ => none) (fun v _ ih n => match n with
  | 0 => some v
  | n + 1 => ih n) l
def int2 (h : Int → Int → Option SV) (x y : Nat) : VF := ⟨fun d => match lookR d.st.tmps x with
  | some (.int .i64 (.lit a)) => match lookR d.st.tmps y with
    | some (.int .i64 (.lit b)) => h a b
    | _ => none
  | _ => none⟩
def intc (h : Int → Int → Option SV) (x : Nat) (b : Int) : VF := ⟨fun d => match lookR d.st.tmps x with
  | some (.int .i64 (.lit a)) => h a b
  | _ => none⟩
def forceI (n : Int) : SV := match n with
  | .ofNat n => forceN n fun n => .int .i64 (.lit (.ofNat n))
  | .negSucc n => forceN n fun n => .int .i64 (.lit (.negSucc n))
def opH (op : BinOp) : Option (Int → Int → Option SV) := match op with
  | .add => some fun a b => some (forceI (IntKind.i64.wrap (a + b)))
  | .sub => some fun a b => some (forceI (IntKind.i64.wrap (a - b)))
  | .eql => some fun a b => some (.bool (.lit (a == b)))
  | .neq => some fun a b => some (.bool (.lit (!(a == b))))
  | .lss => some fun a b => some (.bool (.lit (decide (a < b))))
  | .leq => some fun a b => some (.bool (.lit (decide (a ≤ b))))
  | .gtr => some fun a b => some (.bool (.lit (decide (b < a))))
  | .geq => some fun a b => some (.bool (.lit (decide (b ≤ a))))
  | _ => none
/-- are they alike? -/
def eqD (P : Program) : Nat → Nat → SV → SV → Option Bool
  | 0, _, _, _ => none
  | n + 1, t, u, v => match P.underlying t with
    | some .bool => match u, v with
      | .bool (.lit a), .bool (.lit b) => some (a == b)
      | _, _ => none
    | some (.int _) => match u, v with
      | .int k (.lit a), .int l (.lit b) => if k = l then some (a == b) else none
      | _, _ => none
    | some (.struct fs) => match u, v with
      | .agg xs, .agg ys => if P.stoodInHeld t then none else List.rec (some true) (fun f _ ih => if f.name = "_" then none else match partX P f.type xs f.offset, partX P f.type ys f.offset with
        | some a, some b => match eqD P n f.type a b with
          | some true => ih
          | some false => some false
          | none => none
        | _, _ => none) fs.toList
      | _, _ => none
    | some (.array len e) => match u, v with
      | .agg xs, .agg ys => match sizeX P e with
        | some s => List.rec (some true) (fun i _ ih => match partX P e xs (i * s), partX P e ys (i * s) with
          | some a, some b => match eqD P n e a b with
            | some true => ih
            | some false => some false
            | none => none
          | _, _ => none) (List.range len)
        | none => none
      | _, _ => none
    | _ => none
def eqF (P : Program) (neg : Bool) (T x y : Nat) : VF := ⟨fun d => match lookR d.st.tmps x with
  | some (.agg a) => match lookR d.st.tmps y with
    | some (.agg b) => match eqD P 8 T (.agg a) (.agg b) with
      | some true => some (.bool (.lit (!neg)))
      | some false => some (.bool (.lit neg))
      | none => none
    | _ => none
  | _ => none⟩
def buildF (P : Program) (t : Nat) (parts : Array (Nat × Operand)) : Option VF := match P.underlying t with
  | some (.array len e) => match sizeX P e, zeroX P t with
    | some s, some z => some ⟨fun d => match evParts d.st parts.toList with
      | some ps => match fillX ((List.range len).map fun i => (i * s, s)) z.cells ps with
        | some cs => match SV.los d.st.ctr cs with
          | true => some (.agg cs)
          | false => none
        | none => none
      | none => none⟩
    | _, _ => none
  | _ => none
def constV (v : Value) : Option VF := match SV.ofV 50 v with
  | some v => some ⟨fun _ => some v⟩
  | none => none
def fastV (P : Program) (o : Oper) : Option VF :=
  match o.op with
  | .move (.tmp t) => some ⟨fun d => lookR d.st.tmps t⟩
  | .assign (.tmp t) => some ⟨fun d => lookR d.st.tmps t⟩
  | .move (.const v) => constV v
  | .assign (.const v) => constV v
  | .nilCheck (.tmp t) => some ⟨fun d => match lookR d.st.tmps t with
    | some (.ptr x off) => some (.ptr x off)
    | _ => none⟩
  | .fieldAddr s (.tmp t) f => match structX P s with
    | some fs => match fs[f]? with
      | some fl => match sizeX P fl.type with
        | some n => match n == 0 with
          | false => match fl.offset with
            | 0 => some ⟨fun d => match lookR d.st.tmps t with
              | some (.ptr b off) => some (.ptr b off)
              | _ => none⟩
            | k => some ⟨fun d => match lookR d.st.tmps t with
              | some (.ptr b off) => forceN (off + k) fun o => some (.ptr b o)
              | _ => none⟩
          | true => none
        | none => none
      | none => none
    | none => none
  | .load T (.tmp t) => match isAggB P T, sizeX P T with
    | some false, some m => some ⟨fun d => match lookR d.st.tmps t with
      | some (.ptr x off) => match blkR d.st.heap x with
        | some cs => getR cs off
        | none => none
      | some (.elem x (.lit (.ofNat i)) s) => match d.row x with
        | some (_, e) => match Nat.beq e.s 1 && Nat.beq s 1 && Nat.beq m 1 && Nat.ble (i + 1) e.n with
          | true => getR e.cells i
          | false => none
        | none => none
      | _ => none⟩
    | _, _ => none
  | .binOp op T (.tmp x) (.tmp y) _ => match isAggB P T == some true && !(P.eqGuardType P.depth T) with
    | true => match op with
      | .eql => some (eqF P false T x y)
      | .neq => some (eqF P true T x y)
      | _ => none
    | false => match opH op with
      | some h => some (int2 h x y)
      | none => none
  | .binOp op _ (.tmp x) (.const (.int .i64 b)) _ => match opH op with
    | some h => some (intc h x b)
    | none => none
  | .build t parts => buildF P t parts
  | .indexAddr t (.tmp x) (.tmp y) => match P.underlying t with
    | some (.slice el) => match sizeX P el with
      | some n => some ⟨fun d => match lookR d.st.tmps x with
        | some (.slc x) => match lookR d.st.tmps y with
          | some (.int _ (.lit (.ofNat i))) => match d.len x with
            | some m => match Nat.ble m i with
              | false => some (.elem x (.lit (.ofNat i)) n)
              | true => none
            | none => none
          | _ => none
        | _ => none⟩
      | none => none
    | _ => none
  | .call c => match c.callee, c.args.toList, c.argTypes[0]? with
    | .builtin .len, [.tmp x], some t => match P.underlying t with
      | some (.slice _) => some ⟨fun d => match lookR d.st.tmps x with
        | some (.slc x) => match d.len x with
          | some n => some (.int .i64 (.lit (.ofNat n)))
          | none => none
        | _ => none⟩
      | _ => none
    | _, _, _ => none
  | _ => none
/-- a row that is made of one thing, or of nothing. -/
def fastB (P : Program) (o : Oper) : Option (Nat × Nat × Option Operand) :=
  match o.op with
  | .buildSlice t len parts => match P.underlying t with
    | some (.slice el) => match sizeX P el, zeroX P el with
      | some n, some z => match Nat.beq z.cells.length n && Nat.ble 1 n && Nat.ble (len * n) 4096 with
        | true => match len, parts.toList with
          | 0, [] => some (el, n, none)
          | 1, [(0, x)] => some (el, n, some x)
          | _, _ => none
        | false => none
      | _, _ => none
    | _ => none
  | _ => none
def makeB (d : DS) (dst : Option Nat) (T s n : Nat) (cs : List SV) : DS := match d with
  | ⟨⟨fn, nt, ctr, tmps, heap, res, asm⟩, en⟩ => forceN (ctr + 1) fun c1 => DS.put ⟨⟨fn, nt, c1, tmps, heap, { tag := 0, p := ctr, key := .slc ctr, own := true } :: res, asm⟩, (ctr, ⟨T, s, n, cs⟩) :: en⟩ dst (.slc ctr)
def runB (d : DS) (dst : Option Nat) : Nat × Nat × Option Operand → Option DS
  | (el, n, none) => some (makeB d dst el n 0 [])
  | (el, n, some x) => match d.st.ev x with
    | some v => match Nat.beq v.cells.length n && SV.lo d.st.ctr v with
      | true => some (makeB d dst el n 1 v.cells)
      | false => none
    | none => none
/-- a value that needs no memory. -/
def valS (P : Program) (d : DS) (o : Oper) : Option SV :=
  match opx P d.st o with
  | .val c v => if needsD d c then (match v.fix d with
    | some v => if SV.lo d.st.ctr v then some v else none
    | none => none) else none
  | _ => none
def fastN (P : Program) (o : Oper) (g : Option (Nat × Bool)) : Option VF := match g with
  | none => fastV P o
  | some _ => none
def valD (P : Program) (d : DS) (o : Oper) : Option SV :=
  match (match fastV P o with
    | some ⟨f⟩ => f d
    | none => none) with
  | some v => some v
  | none => valS P d o
def takeD (P : Program) (d : DS) (o : Oper) (g : Option (Nat × Bool)) : Option DS :=
  match (match fastN P o g with
    | some ⟨f⟩ => f d
    | none => none) with
  | some v => some (d.put o.dst v)
  | none => match wantD d g with
  | some true => match valD P d o with
    | some v => some (d.put o.dst v)
    | none => none
  | some false => some (d.put o.dst (.tup []))
  | none => none
def heldA (P : Program) (d : DS) (o : Oper) (g : Option (Nat × Bool)) : Option (Option (HdX)) :=
  match wantD d g with
  | some true => match o.op with
    | .load T a => match d.st.ev a with
      | some a => match loadD P d T a with
        | some v => some (some ⟨T, a, v⟩)
        | none => none
      | none => none
    | _ => none
  | some false => some none
  | none => none
def heldD (P : Program) (hold : List HdX) (d : DS) (o : Oper) (g : Option (Nat × Bool)) : Option DS :=
  match heldA P d o g with
  | some (some h) => if inHold h.T h.a h.v hold && SV.lo d.st.ctr h.v then some (d.put o.dst h.v) else none
  | some none => some (d.put o.dst (.tup []))
  | none => none
/-- what a region reads, and where it stores, as if all were wanted. -/
def preD (P : Program) : Nat → RP → DS → List (Nat × HdX) × List (Nat × SV)
  | 0, _, _ => ([], [])
  | n + 1, p, d => match p with
    | .take _ o _ k => match takeD P d o none with
      | some d => preD P n k d
      | none => preD P n k d
    | .held i o _ k => match heldA P d o none with
      | some (some h) => match preD P n k (d.put o.dst h.v) with
        | (l, m) => ((i, h) :: l, m)
      | _ => preD P n k d
    | .op _ o _ k => match o.op with
      | .store T a _ => match d.st.ev a with
        | some a => match preD P n k d with
          | (l, m) => (l, (T, a) :: m)
        | none => preD P n k d
      | _ => match fastN P o none with
        | some ⟨f⟩ => match f d with
          | some v => preD P n k (d.put o.dst v)
          | none => preD P n k d
        | none => preD P n k d
    | .all (.cons _ _ _ k _) => preD P n k d
    | _ => ([], [])
def meets (P : Program) (T : Nat) (a : SV) (U : Nat) (b : SV) : Bool := match a, b with
  | .ptr x o, .ptr y p => match Nat.beq x y with
    | true => match sizeX P T, sizeX P U with
      | some n, some m => !(Nat.ble (o + n) p || Nat.ble (p + m) o)
      | _, _ => true
    | false => false
  | .elem x _ _, .elem y _ _ => Nat.beq x y
  | _, _ => false
def badD (P : Program) (st : List (Nat × SV)) : List (Nat × HdX) → List Nat
  | [] => []
  | (i, h) :: l => match st.any (fun x => meets P h.T h.a x.1 x.2) with
    | true => i :: badD P st l
    | false => badD P st l
def hasHeld : Nat → RP → Bool
  | 0, _ => true
  | n + 1, p => match p with
    | .take _ _ _ k => hasHeld n k
    | .held _ _ _ _ => true
    | .op _ _ _ k => hasHeld n k
    | .all (.cons _ _ _ k _) => hasHeld n k
    | _ => false

/-! orders come to the same -/
abbrev Log := List (Nat × Nat × Nat)       -- operation, the names that it made
def shiftOf : Log → Log → List (Nat × Nat × Nat)
  | [], _ => []
  | (i, s, e) :: l, m => match look m i with
    | some (s', e') => if e - s = e' - s' && decide (s < e) then (s, s', e - s) :: shiftOf l m else shiftOf l m
    | none => shiftOf l m
def shift : List (Nat × Nat × Nat) → Nat → Nat
  | [], x => x
  | (s, s', n) :: l, x => if s ≤ x && decide (x < s + n) then s' + (x - s) else shift l x
mutual
def SV.alike (π : Nat → Nat) : SV → SV → Bool
  | .bool (.lit a), .bool (.lit b) => a == b
  | .int k (.lit a), .int l (.lit b) => decide (k = l) && decide (a = b)
  | .ptr x o, .ptr y p => π x == y && o == p
  | .nilptr, .nilptr => true
  | .slc x, .slc y => π x == y
  | .nilslc, .nilslc => true
  | .func f a b, .func g c d => decide (f = g) && SV.alikes π a c && SV.alikes π b d
  | .nilFunc, .nilFunc => true
  | .iface t v, .iface u w => t == u && SV.alike π v w
  | .nilIface, .nilIface => true
  | .agg a, .agg b => SV.alikes π a b
  | .tup a, .tup b => SV.alikes π a b
  | .elem x (.lit e) s, .elem y (.lit f) t => π x == y && decide (e = f) && s == t
  | _, _ => false
def SV.alikes (π : Nat → Nat) : List SV → List SV → Bool
  | [], [] => true
  | a :: l, b :: m => SV.alike π a b && SV.alikes π l m
  | _, _ => false
end
def alikeT (π : Nat → Nat) (b : List (Nat × SV)) : List (Nat × SV) → Bool
  | [] => true
  | (t, v) :: l => (match look b t with
    | some u => SV.alike π v u
    | none => false) && alikeT π b l
def alikeH (π : Nat → Nat) (b : List Blk) : List Blk → Bool
  | [] => true
  | x :: l => (match findBlk b (π x.x) with
    | some y => x.T == y.T && SV.alikes π x.cs y.cs
    | none => false) && l.all (fun z => !(π z.x == π x.x)) && alikeH π b l
/-- what is held, one of those. -/
def findRes : List Res → Nat → Option Res
  | [], _ => none
  | r :: l, x => match r.key with
    | .slc y => if y = x then some r else findRes l x
    | _ => findRes l x
def alikeR (π : Nat → Nat) (da db : DS) : List Res → Bool
  | [] => true
  | r :: l => (match r.key with
    | .slc x => match findRes db.st.res (π x) with
      | some s => π r.p == s.p && s.own && r.own && (match look da.en r.p, look db.en s.p with
        | some a, some b => a.T == b.T && a.s == b.s && a.n == b.n && SV.alikes π a.cells b.cells
        | _, _ => false)
      | none => false
    | _ => false) && l.all (fun z => match z.key, r.key with
      | .slc a, .slc b => !(π a == π b)
      | _, _ => false) && alikeR π da db l
def lowId (t : Nat) : List (Nat × Nat × Nat) → Bool
  | [] => true
  | (s, _, _) :: l => decide (t ≤ s) && lowId t l
def wfR (d : DS) : List Res → Bool
  | [] => true
  | r :: l => (match r.key with
    | .slc _ => r.own && (match look d.en r.p with
      | some e => SV.los d.st.ctr e.cells && e.n * e.s == e.cells.length
      | none => false)
    | _ => false) && wfR d l
def alikeD (t : Nat) (m : List (Nat × Nat × Nat)) (da db : DS) : Bool :=
  da.st.lo && da.st.asm.isEmpty && wfR da da.st.res && lowId t m && da.st.ctr == db.st.ctr && da.st.fn == db.st.fn && da.st.nt == db.st.nt && alikeT (shift m) db.st.tmps (compact da.st.tmps []) && alikeH (shift m) db.st.heap da.st.heap && alikeR (shift m) da db da.st.res

/-! garbage -/
mutual
def SV.names (t : Nat) : SV → List Nat → List Nat
  | .ptr x _, l => if x < t then l else x :: l
  | .slc x, l => if x < t then l else x :: l
  | .func _ a b, l => SV.namess t a (SV.namess t b l)
  | .iface _ v, l => SV.names t v l
  | .agg a, l => SV.namess t a l
  | .tup a, l => SV.namess t a l
  | .elem x _ _, l => if x < t then l else x :: l
  | _, l => l
def SV.namess (t : Nat) : List SV → List Nat → List Nat
  | [], l => l
  | v :: vs, l => SV.names t v (SV.namess t vs l)
end
def cellsOf (d : DS) (x : Nat) : List SV := match findBlk d.st.heap x with
  | some b => b.cs
  | none => match d.row x with
    | some (_, e) => e.cells
    | none => []
/-- new things that are reached. -/
def reach (d : DS) (t : Nat) : Nat → List Nat → List Nat → List Nat
  | 0, _, seen => seen
  | _ + 1, [], seen => seen
  | n + 1, x :: l, seen => if seen.any (· == x) then reach d t n l seen else reach d t n (SV.namess t (cellsOf d x) l) (x :: seen)
def rootsH (t : Nat) : List Blk → List Nat → List Nat
  | [], l => l
  | b :: h, l => rootsH t h (if b.x < t then SV.namess t b.cs l else l)
def rootsR (d : DS) (t : Nat) : List Res → List Nat → List Nat
  | [], l => l
  | r :: h, l => rootsR d t h (match r.key with
    | .slc x => if x < t then (match look d.en r.p with
      | some e => SV.namess t e.cells l
      | none => l) else l
    | _ => l)
def gcD (t : Nat) (v : SV) (d : DS) : DS :=
  if Nat.ble d.st.ctr (t + 100) || Nat.ble (d.st.heap.length + d.st.res.length) 30 then d else
  match reach d t 100000 (rootsR d t d.st.res (rootsH t d.st.heap (SV.names t v []))) [] with
  | live => { st := { d.st with heap := d.st.heap.filter (fun b => decide (b.x < t) || live.any (· == b.x)), res := d.st.res.filter (fun r => match r.key with
      | .slc x => decide (x < t) || live.any (· == x)
      | _ => true) }, en := d.en.filter (fun x => d.st.res.any (fun r => r.p == x.1)) }

/-! the run -/
/-- a function whose outcome is known, and that alters nothing. -/
structure HK where
  fn : Nat
  run : List SV → DS → Option SV
def findHK : List HK → Nat → Option HK
  | [], _ => none
  | h :: l, f => match Nat.beq h.fn f with
    | true => some h
    | false => findHK l f
def DS.pruned (d : DS) (live : List Nat) : DS := match d with
  | ⟨⟨fn, nt, ctr, tmps, heap, res, asm⟩, en⟩ => ⟨⟨fn, nt, ctr, prune live tmps [], heap, res, asm⟩, en⟩
mutual
def dc (P : Program) (hk : List HK) (live : List Nat) : Nat → DC → DS → Option (Ex × DS)
  | 0, _, _ => none
  | n + 1, c, d => match c with
    | .skip => some (.normal, d)
    | .ret => some (.ret, d)
    | .exit id => some (.exit id, d)
    | .seq a b => match dc P hk live n a d with
      | some (.normal, d) => dc P hk live n b d
      | r => r
    | .cond c a b => match d.st.ev c with
      | some (.bool (.lit true)) => dc P hk live n a d
      | some (.bool (.lit false)) => dc P hk live n b d
      | _ => none
    | .block id c => match dc P hk live n c d with
      | some (.exit i, d) => if i = id then some (.normal, d) else some (.exit i, d)
      | r => r
    | .loop c => match dc P hk live n c d with
      | some (.normal, d) => dc P hk live n (.loop c) d
      | r => r
    | .line p => match drp P hk n p [] d with
      | some (d, _) => some (.normal, d.pruned live)
      | none => none
    | .reg ops p => match (match hasHeld 100 p with
        | true => preD P 100 p d
        | false => ([], [])) with
      | (hl, st) => match badD P st hl with
        | [] => dreg P hk n live p (hl.map (·.2)) d
        | bad => dreg P hk n live (planA ops bad ops.size (Array.replicate ops.size false)) ((preD P 100 (planA ops bad ops.size (Array.replicate ops.size false)) d).1.map (·.2)) d
    | .bad => none
  termination_by structural n => n
def dreg (P : Program) (hk : List HK) : Nat → List Nat → RP → List HdX → DS → Option (Ex × DS)
  | 0, _, _, _, _ => none
  | n + 1, live, p, hold, d => match P.follows .mixedOrders && hold.all (fun h => SV.lo d.st.ctr h.a && SV.lo d.st.ctr h.v) && holdD P d hold with
    | true => match drp P hk n p hold d with
      | some (d, _) => some (.normal, d.pruned live)
      | none => none
    | false => none
  termination_by structural n => n
def drp (P : Program) (hk : List HK) : Nat → RP → List HdX → DS → Option (DS × Log)
  | 0, _, _, _ => none
  | n + 1, p, hold, d => match p with
    | .done => some (d, [])
    | .bad => none
    | .op i o g k => match fastN P o g with
      | some ⟨f⟩ => match f d with
        | some v => drp P hk n k hold (d.put o.dst v)
        | none => drq P hk n i o g k hold d
      | none => drq P hk n i o g k hold d
    | .take _ o g k => match takeD P d o g with
      | some d1 => drp P hk n k hold d1
      | none => none
    | .held _ o g k => match heldD P hold d o g with
      | some d1 => drp P hk n k hold d1
      | none => none
    | .all (.cons i o g k l) => match dgo P hk n o g d with
      | some d1 => if holdD P d1 hold then (match drp P hk n k hold d1 with
        | some (d2, lg) => if drs P hk n l hold d d.st.ctr d2 ((i, d.st.ctr, d1.st.ctr) :: lg) then some (d2, (i, d.st.ctr, d1.st.ctr) :: lg) else none
        | none => none) else none
      | none => none
    | .all .nil => none
  termination_by structural n => n
def drq (P : Program) (hk : List HK) : Nat → Nat → Oper → Option (Nat × Bool) → RP → List HdX → DS → Option (DS × Log)
  | 0, _, _, _, _, _, _ => none
  | n + 1, i, o, g, k, hold, d => match dgo P hk n o g d with
    | some d1 => match holdD P d1 hold with
      | true => match drp P hk n k hold d1 with
        | some (d2, l) => some (d2, (i, d.st.ctr, d1.st.ctr) :: l)
        | none => none
      | false => none
    | none => none
  termination_by structural n => n
/-- the other orders come to the same. -/
def drs (P : Program) (hk : List HK) : Nat → RPs → List HdX → DS → Nat → DS → Log → Bool
  | 0, _, _, _, _, _, _ => false
  | _ + 1, .nil, _, _, _, _, _ => true
  | n + 1, .cons i o g k l, hold, d, t, dA, lA => match dgo P hk n o g d with
    | some d1 => holdD P d1 hold && (match drp P hk n k hold d1 with
      | some (d2, lg) => alikeD t (shiftOf lA ((i, d.st.ctr, d1.st.ctr) :: lg)) dA d2 && drs P hk n l hold d t dA lA
      | none => false)
    | none => false
  termination_by structural n => n
/-- an operation. -/
def dgo (P : Program) (hk : List HK) : Nat → Oper → Option (Nat × Bool) → DS → Option DS
  | 0, _, _, _ => none
  | n + 1, o, g, d => match wantD d g with
    | none => none
    | some false => some (d.put o.dst (.tup []))
    | some true => match fastB P o with
    | some b => runB d o.dst b
    | none => match isTake o || isLoad o with
      | true => match valD P d o with
        | some v => some (d.put o.dst v)
        | none => match opx P d.st o with
          | .call f args => if SV.los d.st.ctr args then (match dfn P hk n f args d with
            | some (v, d1) => some (d1.put o.dst v)
            | none => none) else none
          | _ => none
      | false => match opx P d.st o with
        | .mem h => if h.all (fun b => SV.los d.st.ctr b.cs) then some ({ d with st := { d.st with heap := h } }.put o.dst (.tup [])) else none
        | .new T cs => if SV.los d.st.ctr cs then some ({ d with st := { d.st with ctr := d.st.ctr + 1, heap := { x := d.st.ctr, T := T, cs := cs } :: d.st.heap } }.put o.dst (.ptr d.st.ctr 0)) else none
        | .call f args => if SV.los d.st.ctr args then (match dfn P hk n f args d with
          | some (v, d1) => some (d1.put o.dst v)
          | none => none) else none
        | _ => none
  termination_by structural n => n
def dfn (P : Program) (hk : List HK) : Nat → Fk → List SV → DS → Option (SV × DS)
  | 0, _, _, _ => none
  | n + 1, f, args, d => match f with
    | .fn f => (match findHK hk f with
      | some h => match h.run args d with
        | some v => match SV.lo d.st.ctr v with
          | true => some (v, d)
          | false => none
        | none => none
      | none => match P.funcs[f]? with
      | none => none
      | some fn => match fn.body with
        | none => none
        | some c => match dc P hk (liveC c (liveR fn.results.toList)) n (DC.of c) { d with st := { d.st with fn := f, nt := args.length + (fn.ntmps - args.length), tmps := enumT 0 args } } with
          | some (.exit _, _) => none
          | some (_, d1) => match resX P d1.st fn.results.toList with
            | some vs => match SV.los d1.st.ctr vs with
              | true => match gcD d.st.ctr (oneX vs) d1 with
                | d2 => some (oneX vs, { d2 with st := { d2.st with fn := d.st.fn, nt := d.st.nt, tmps := d.st.tmps } })
              | false => none
            | none => none
          | none => none)
    | .ld T s => match args with
      | [.slc x, .int _ (.lit (.ofNat i))] => match ldD P T s d x i with
        | some v => some (v, d)
        | none => none
      | _ => none
    | .st T s => match args with
      | [.slc x, .int _ (.lit (.ofNat i)), v] => match stD P T s d x i v with
        | some d => some (.tup [], d)
        | none => none
      | _ => none
    | .bs T s m => bsD T s m args d
    | .app t u => appD P t u args d
    | .mk t => mkD P t args d
    | _ => none
  termination_by structural n => n
end
def DS.start : DS := ⟨⟨0, 0, 0, [], [], [], []⟩, []⟩
end
end Go.Sx

namespace Go.Sx
open Go

abbrev F0 : Foot := ⟨fun _ => False, fun _ => False⟩
/-- memory is as a state says. -/
structure DSat (w0 : World) (ρ : Env Pl) (d : DS) (w : World) : Prop where
  H : HSat PI F0 w0 ρ d.st.heap d.st.res w
  lo : Lo d.st
  asm : d.st.asm = []
  en : ∀ r ∈ d.st.res, ∃ x e, r.key = .slc x ∧ r.own = true ∧ look d.en r.p = some e ∧ ρ.p r.p = .row e.T e.s (SV.dens ρ e.cells) ∧ SV.los d.st.ctr e.cells = true ∧ e.n * e.s = e.cells.length

theorem keyP_mem : ∀ {l : List Res} {x p : Nat}, keyP l x = some p → ∃ r ∈ l, r.key = .slc x ∧ r.p = p
  | [], _, _, h => by simp [keyP] at h
  | r :: l, x, p, h => by
    unfold keyP at h
    split at h
    · rename_i y hy
      split at h
      · rename_i e
        cases h
        exact ⟨r, List.mem_cons_self .., e ▸ hy, rfl⟩
      · obtain ⟨s, h1, h2⟩ := keyP_mem h
        exact ⟨s, List.mem_cons_of_mem _ h1, h2⟩
    · obtain ⟨s, h1, h2⟩ := keyP_mem h
      exact ⟨s, List.mem_cons_of_mem _ h1, h2⟩
theorem row_spec {d : DS} {x p : Nat} {e : EnD} (h : d.row x = some (p, e)) : ∃ r ∈ d.st.res, r.key = .slc x ∧ r.p = p ∧ look d.en p = some e := by
  unfold DS.row at h
  split at h
  · rename_i q hq
    split at h
    · rename_i e' he
      cases h
      obtain ⟨r, h1, h2, h3⟩ := keyP_mem hq
      exact ⟨r, h1, h2, h3, he⟩
    · cases h
  · cases h
theorem DSat.row {w0 w : World} {ρ : Env Pl} {d : DS} (D : DSat w0 ρ d w) {x p : Nat} {e : EnD} (h : d.row x = some (p, e)) :
    PI.holds (.row e.T e.s (SV.dens ρ e.cells)) (SV.den ρ (.slc x)) w ∧ ρ.p p = .row e.T e.s (SV.dens ρ e.cells) ∧ SV.los d.st.ctr e.cells = true ∧ e.n * e.s = e.cells.length ∧ 0 < e.s ∧ (ρ.s x).2.1 = e.n ∧ (0 < e.n → (ρ.s x).1.isSome = true) := by
  obtain ⟨r, hr, hk, rfl, he⟩ := row_spec h
  obtain ⟨y, e', hy, -, he', hp, hl, hn⟩ := D.en r hr
  rw [he] at he'
  cases he'
  have hh := D.H.res r hr
  rw [hp, hk] at hh
  have h0 := (holds_row.1 hh).1
  obtain ⟨h1, h2⟩ := own_slc (a := ρ.s x) hh
  rw [dens_len] at h1 h2
  rw [← hn] at h1
  have h3 : e.n = (ρ.s x).2.1 := Nat.eq_of_mul_eq_mul_right h0 h1
  exact ⟨hh, hp, hl, hn, h0, h3.symm, fun hpos => h2 (by rw [← hn]; exact Nat.mul_pos hpos h0)⟩
theorem DSat.len {w0 w : World} {ρ : Env Pl} {d : DS} (D : DSat w0 ρ d w) {x n : Nat} (h : d.len x = some n) : (ρ.s x).2.1 = n ∧ (0 < n → (ρ.s x).1.isSome = true) := by
  unfold DS.len at h
  split at h
  · rename_i p e hr
    cases h
    exact (D.row hr).2.2.2.2.2
  · cases h

theorem IE.okd_den {w0 w : World} {ρ : Env Pl} {d : DS} (D : DSat w0 ρ d w) : ∀ {e : IE}, e.okd d = true → e.den ρ = e.den d.env
  | .lit n, _ => rfl
  | .var _, h => by simp [IE.okd] at h
  | .len x, h => by
    simp only [IE.okd] at h
    obtain ⟨n, hn⟩ := Option.isSome_iff_exists.1 h
    simp only [IE.den, DS.env, hn, (D.len hn).1]
  | .wrap k a, h => by simp only [IE.den, IE.okd_den D (e := a) h]
  | .add a b, h => by simp only [IE.okd, Bool.and_eq_true] at h; simp only [IE.den, IE.okd_den D h.1, IE.okd_den D h.2]
  | .sub a b, h => by simp only [IE.okd, Bool.and_eq_true] at h; simp only [IE.den, IE.okd_den D h.1, IE.okd_den D h.2]
  | .mul a b, h => by simp only [IE.okd, Bool.and_eq_true] at h; simp only [IE.den, IE.okd_den D h.1, IE.okd_den D h.2]
  | .quo a b, h => by simp only [IE.okd, Bool.and_eq_true] at h; simp only [IE.den, IE.okd_den D h.1, IE.okd_den D h.2]
  | .rem a b, h => by simp only [IE.okd, Bool.and_eq_true] at h; simp only [IE.den, IE.okd_den D h.1, IE.okd_den D h.2]
  | .mn a b, h => by simp only [IE.okd, Bool.and_eq_true] at h; simp only [IE.den, IE.okd_den D h.1, IE.okd_den D h.2]
  | .mx a b, h => by simp only [IE.okd, Bool.and_eq_true] at h; simp only [IE.den, IE.okd_den D h.1, IE.okd_den D h.2]
  | .shl k a b, h => by simp only [IE.okd, Bool.and_eq_true] at h; simp only [IE.den, IE.okd_den D h.1, IE.okd_den D h.2]
  | .bits op k a b, h => by simp only [IE.okd, Bool.and_eq_true] at h; simp only [IE.den, IE.okd_den D h.1, IE.okd_den D h.2]
  | .shr a n, h => by simp only [IE.den, IE.okd_den D (e := a) h]
theorem BE.okd_den {w0 w : World} {ρ : Env Pl} {d : DS} (D : DSat w0 ρ d w) : ∀ {e : BE}, e.okd d = true → e.den ρ = e.den d.env
  | .lit n, _ => rfl
  | .var _, h => by simp [BE.okd] at h
  | .not a, h => by simp only [BE.den, BE.okd_den D (e := a) h]
  | .eq a b, h => by simp only [BE.okd, Bool.and_eq_true] at h; simp only [BE.den, IE.okd_den D h.1, IE.okd_den D h.2]
  | .lt a b, h => by simp only [BE.okd, Bool.and_eq_true] at h; simp only [BE.den, IE.okd_den D h.1, IE.okd_den D h.2]
  | .le a b, h => by simp only [BE.okd, Bool.and_eq_true] at h; simp only [BE.den, IE.okd_den D h.1, IE.okd_den D h.2]
  | .and a b, h => by simp only [BE.okd, Bool.and_eq_true] at h; simp only [BE.den, BE.okd_den D h.1, BE.okd_den D h.2]
  | .beq a b, h => by simp only [BE.okd, Bool.and_eq_true] at h; simp only [BE.den, BE.okd_den D h.1, BE.okd_den D h.2]
  | .sm x, h => by
    simp only [BE.okd] at h
    split at h
    · rename_i n hn
      have hn0 : n ≠ 0 := by simpa using h
      simp only [BE.den, DS.env, hn, (D.len hn).2 (Nat.pos_of_ne_zero hn0), if_neg hn0, Option.isSome_some]
    · cases h
theorem IE.fix_den {w0 w : World} {ρ : Env Pl} {d : DS} (D : DSat w0 ρ d w) {e e' : IE} (h : e.fix d = some e') : e'.den ρ = e.den ρ := by
  unfold IE.fix at h
  split at h
  · cases h; rfl
  · split at h
    · rename_i ho
      rw [IE.okd_den D ho]
      split at h
      · rename_i n hn
        rw [hn]
        split at h
        · rename_i h0
          cases h
          rw [beq_iff_eq] at h0
          subst h0
          rfl
        · cases h; rfl
      · rename_i n hn
        rw [hn]
        split at h
        · rename_i h0
          cases h
          rw [beq_iff_eq] at h0
          subst h0
          rfl
        · cases h; rfl
    · cases h
theorem BE.fix_den {w0 w : World} {ρ : Env Pl} {d : DS} (D : DSat w0 ρ d w) {e e' : BE} (h : e.fix d = some e') : e'.den ρ = e.den ρ := by
  unfold BE.fix at h
  split at h
  · cases h; rfl
  · split at h
    · rename_i ho
      rw [BE.okd_den D ho]
      split at h
      · rename_i hn; rw [hn]; cases h; rfl
      · rename_i hn; rw [hn]; cases h; rfl
    · cases h
mutual
theorem SV.fix_den {w0 w : World} {ρ : Env Pl} {d : DS} (D : DSat w0 ρ d w) : ∀ {v u : SV}, v.fix d = some u → SV.den ρ u = SV.den ρ v
  | .bool b, u, h => by
    simp only [SV.fix] at h
    split at h
    · rename_i b' hb; cases h; simp only [SV.den, BE.fix_den D hb]
    · cases h
  | .int k e, u, h => by
    simp only [SV.fix] at h
    split at h
    · rename_i b' hb; cases h; simp only [SV.den, IE.fix_den D hb]
    · cases h
  | .ptr x o, u, h => by simp only [SV.fix, Option.some.injEq] at h; rw [← h]
  | .nilptr, u, h => by simp only [SV.fix, Option.some.injEq] at h; rw [← h]
  | .slc x, u, h => by simp only [SV.fix, Option.some.injEq] at h; rw [← h]
  | .nilslc, u, h => by simp only [SV.fix, Option.some.injEq] at h; rw [← h]
  | .row .., u, h => by simp [SV.fix] at h
  | .func f a b, u, h => by
    simp only [SV.fix] at h
    split at h
    · rename_i a' b' ha hb; cases h; simp only [SV.den, SV.fixs_den D ha, SV.fixs_den D hb]
    · cases h
  | .nilFunc, u, h => by simp only [SV.fix, Option.some.injEq] at h; rw [← h]
  | .iface t v, u, h => by
    simp only [SV.fix] at h
    split at h
    · rename_i b' hb; cases h; simp only [SV.den, SV.fix_den D hb]
    · cases h
  | .nilIface, u, h => by simp only [SV.fix, Option.some.injEq] at h; rw [← h]
  | .agg cs, u, h => by
    simp only [SV.fix] at h
    split at h
    · rename_i b' hb; cases h; simp only [SV.den, SV.fixs_den D hb]
    · cases h
  | .tup cs, u, h => by
    simp only [SV.fix] at h
    split at h
    · rename_i b' hb; cases h; simp only [SV.den, SV.fixs_den D hb]
    · cases h
  | .elem x e s, u, h => by
    simp only [SV.fix] at h
    split at h
    · rename_i b' hb; cases h; simp only [SV.den, IE.fix_den D hb]
    · cases h
  | .mptr .., u, h => by simp [SV.fix] at h
theorem SV.fixs_den {w0 w : World} {ρ : Env Pl} {d : DS} (D : DSat w0 ρ d w) : ∀ {v u : List SV}, SV.fixs d v = some u → SV.dens ρ u = SV.dens ρ v
  | [], u, h => by simp only [SV.fixs, Option.some.injEq] at h; rw [← h]
  | v :: l, u, h => by
    simp only [SV.fixs] at h
    split at h
    · rename_i a' b' ha hb; cases h; simp only [SV.dens, SV.fix_den D ha, SV.fixs_den D hb]
    · cases h
end
theorem needsD_den {w0 w : World} {ρ : Env Pl} {d : DS} (D : DSat w0 ρ d w) : ∀ {c : List BE}, needsD d c = true → ∀ x ∈ c, x.den ρ = true
  | [], _, _, hx => by cases hx
  | b :: l, h, x, hx => by
    simp only [needsD, Bool.and_eq_true] at h
    rcases List.mem_cons.1 hx with rfl | hx
    · rw [BE.okd_den D h.1.1]; exact h.1.2
    · exact needsD_den D h.2 x hx

/-! names that are below -/
mutual
theorem ofV_lo (t : Nat) : ∀ (m : Nat) (v : Value) (x : SV), SV.ofV m v = some x → SV.lo t x = true
  | 0, _, _, h => by simp [SV.ofV] at h
  | m + 1, v, x, h => by
    unfold SV.ofV at h
    split at h <;> first
      | (cases h; rfl)
      | (obtain ⟨y, hy, rfl⟩ := Option.map_eq_some_iff.1 h
         simp only [SV.lo]
         exact ofVs_lo t m _ _ hy)
      | cases h
theorem ofVs_lo (t : Nat) : ∀ (m : Nat) (v : List Value) (x : List SV), SV.ofVs m v = some x → SV.los t x = true
  | 0, _, _, h => by simp [SV.ofVs] at h
  | _ + 1, [], _, h => by simp only [SV.ofVs, Option.some.injEq] at h; subst h; rfl
  | m + 1, v :: vs, x, h => by
    simp only [SV.ofVs] at h
    split at h
    · rename_i a b ha hb
      cases h
      simp only [SV.los, ofV_lo t m _ _ ha, ofVs_lo t m _ _ hb, Bool.and_self]
    · cases h
end
end Go.Sx

namespace Go.Sx
open Go

theorem IE.lo_mono {t u : Nat} (h : t ≤ u) : ∀ e : IE, e.lo t = true → e.lo u = true
  | .lit _, _ => rfl
  | .var x, hx => by simp only [IE.lo, decide_eq_true_eq] at hx ⊢; omega
  | .len x, hx => by simp only [IE.lo, decide_eq_true_eq] at hx ⊢; omega
  | .wrap _ a, hx => IE.lo_mono h a hx
  | .shr a _, hx => IE.lo_mono h a hx
  | .add a b, hx => by simp only [IE.lo, Bool.and_eq_true] at hx ⊢; exact ⟨IE.lo_mono h a hx.1, IE.lo_mono h b hx.2⟩
  | .sub a b, hx => by simp only [IE.lo, Bool.and_eq_true] at hx ⊢; exact ⟨IE.lo_mono h a hx.1, IE.lo_mono h b hx.2⟩
  | .mul a b, hx => by simp only [IE.lo, Bool.and_eq_true] at hx ⊢; exact ⟨IE.lo_mono h a hx.1, IE.lo_mono h b hx.2⟩
  | .quo a b, hx => by simp only [IE.lo, Bool.and_eq_true] at hx ⊢; exact ⟨IE.lo_mono h a hx.1, IE.lo_mono h b hx.2⟩
  | .rem a b, hx => by simp only [IE.lo, Bool.and_eq_true] at hx ⊢; exact ⟨IE.lo_mono h a hx.1, IE.lo_mono h b hx.2⟩
  | .mn a b, hx => by simp only [IE.lo, Bool.and_eq_true] at hx ⊢; exact ⟨IE.lo_mono h a hx.1, IE.lo_mono h b hx.2⟩
  | .mx a b, hx => by simp only [IE.lo, Bool.and_eq_true] at hx ⊢; exact ⟨IE.lo_mono h a hx.1, IE.lo_mono h b hx.2⟩
  | .shl _ a b, hx => by simp only [IE.lo, Bool.and_eq_true] at hx ⊢; exact ⟨IE.lo_mono h a hx.1, IE.lo_mono h b hx.2⟩
  | .bits _ _ a b, hx => by simp only [IE.lo, Bool.and_eq_true] at hx ⊢; exact ⟨IE.lo_mono h a hx.1, IE.lo_mono h b hx.2⟩
theorem BE.lo_mono {t u : Nat} (h : t ≤ u) : ∀ e : BE, e.lo t = true → e.lo u = true
  | .lit _, _ => rfl
  | .var x, hx => by simp only [BE.lo, decide_eq_true_eq] at hx ⊢; omega
  | .sm x, hx => by simp only [BE.lo, decide_eq_true_eq] at hx ⊢; omega
  | .not a, hx => BE.lo_mono h a hx
  | .eq a b, hx => by simp only [BE.lo, Bool.and_eq_true] at hx ⊢; exact ⟨IE.lo_mono h a hx.1, IE.lo_mono h b hx.2⟩
  | .lt a b, hx => by simp only [BE.lo, Bool.and_eq_true] at hx ⊢; exact ⟨IE.lo_mono h a hx.1, IE.lo_mono h b hx.2⟩
  | .le a b, hx => by simp only [BE.lo, Bool.and_eq_true] at hx ⊢; exact ⟨IE.lo_mono h a hx.1, IE.lo_mono h b hx.2⟩
  | .and a b, hx => by simp only [BE.lo, Bool.and_eq_true] at hx ⊢; exact ⟨BE.lo_mono h a hx.1, BE.lo_mono h b hx.2⟩
  | .beq a b, hx => by simp only [BE.lo, Bool.and_eq_true] at hx ⊢; exact ⟨BE.lo_mono h a hx.1, BE.lo_mono h b hx.2⟩
mutual
theorem SV.lo_mono {t u : Nat} (h : t ≤ u) : ∀ v : SV, SV.lo t v = true → SV.lo u v = true
  | .bool b, hx => BE.lo_mono h b hx
  | .int _ e, hx => IE.lo_mono h e hx
  | .ptr x _, hx => by simp only [SV.lo, decide_eq_true_eq] at hx ⊢; omega
  | .slc x, hx => by simp only [SV.lo, decide_eq_true_eq] at hx ⊢; omega
  | .row x _ _ _, hx => by simp only [SV.lo, decide_eq_true_eq] at hx ⊢; omega
  | .func _ a b, hx => by simp only [SV.lo, Bool.and_eq_true] at hx ⊢; exact ⟨SV.los_mono h a hx.1, SV.los_mono h b hx.2⟩
  | .iface _ v, hx => SV.lo_mono h v hx
  | .agg cs, hx => SV.los_mono h cs hx
  | .tup cs, hx => SV.los_mono h cs hx
  | .elem x e _, hx => by simp only [SV.lo, Bool.and_eq_true, decide_eq_true_eq] at hx ⊢; exact ⟨by omega, IE.lo_mono h e hx.2⟩
  | .mptr b x, hx => by simp only [SV.lo, Bool.and_eq_true, decide_eq_true_eq] at hx ⊢; exact ⟨BE.lo_mono h b hx.1, by omega⟩
  | .nilptr, _ => rfl
  | .nilslc, _ => rfl
  | .nilFunc, _ => rfl
  | .nilIface, _ => rfl
theorem SV.los_mono {t u : Nat} (h : t ≤ u) : ∀ l : List SV, SV.los t l = true → SV.los u l = true
  | [], _ => rfl
  | v :: l, hx => by simp only [SV.los, Bool.and_eq_true] at hx ⊢; exact ⟨SV.lo_mono h v hx.1, SV.los_mono h l hx.2⟩
end
theorem los_mem {t : Nat} : ∀ {l : List SV}, SV.los t l = true ↔ ∀ v ∈ l, SV.lo t v = true
  | [] => by simp [SV.los]
  | v :: l => by simp [SV.los, los_mem (l := l)]

/-- one step on. -/
structure Step (w0 : World) (ρ : Env Pl) (d : DS) (ρ' : Env Pl) (d' : DS) (w' : World) : Prop where
  ext : Ext d.st.ctr ρ ρ'
  ctr : d.st.ctr ≤ d'.st.ctr
  sat : DSat w0 ρ' d' w'
structure Same (d d' : DS) : Prop where
  nt : d'.st.nt = d.st.nt
  fn : d'.st.fn = d.st.fn
  tmps : d'.st.tmps = d.st.tmps
theorem Same.refl (d : DS) : Same d d := ⟨rfl, rfl, rfl⟩
theorem Same.trans {a b c : DS} (h : Same a b) (k : Same b c) : Same a c := ⟨k.nt.trans h.nt, k.fn.trans h.fn, k.tmps.trans h.tmps⟩
theorem Step.refl {w0 w : World} {ρ : Env Pl} {d : DS} (h : DSat w0 ρ d w) : Step w0 ρ d ρ d w := ⟨Ext.refl _ _, Nat.le_refl _, h⟩
theorem Step.trans {w0 w w' : World} {ρ ρ' ρ'' : Env Pl} {d d' d'' : DS} (h : Step w0 ρ d ρ' d' w) (k : Step w0 ρ' d' ρ'' d'' w') : Step w0 ρ d ρ'' d'' w' :=
  ⟨h.ext.trans k.ext h.ctr, Nat.le_trans h.ctr k.ctr, k.sat⟩

/-- new rows beside the others. -/
theorem DSat.more {w0 w w' : World} {ρ ρ' : Env Pl} {d : DS} (D : DSat w0 ρ d w) {ctr : Nat} {res : List Res} {en : List (Nat × EnD)} (hc : d.st.ctr ≤ ctr) (he : Ext d.st.ctr ρ ρ')
    (H : HSat PI F0 w0 ρ' d.st.heap res w') (hres : ∀ r ∈ res, (r ∈ d.st.res ∧ look en r.p = look d.en r.p) ∨
      ∃ x e, r.key = .slc x ∧ x < ctr ∧ r.p < ctr ∧ r.own = true ∧ look en r.p = some e ∧ ρ'.p r.p = .row e.T e.s (SV.dens ρ' e.cells) ∧ SV.los ctr e.cells = true ∧ e.n * e.s = e.cells.length) :
    DSat w0 ρ' { st := { d.st with ctr := ctr, res := res }, en := en } w' := by
  refine ⟨H, ⟨fun x hx => SV.lo_mono hc _ (D.lo.tmps x hx), fun b hb => ⟨Nat.lt_of_lt_of_le (D.lo.heap b hb).1 hc, SV.los_mono hc _ (D.lo.heap b hb).2⟩, fun r hr => ?_, fun x hx => ?_⟩, D.asm, fun r hr => ?_⟩
  · rcases hres r hr with ⟨h, -⟩ | ⟨x, e, hk, hx, hp, -⟩
    · exact ⟨Nat.lt_of_lt_of_le (D.lo.res r h).1 hc, SV.lo_mono hc _ (D.lo.res r h).2⟩
    · rw [hk]
      exact ⟨hp, by simpa [SV.lo] using hx⟩
  · rw [D.asm] at hx; cases hx
  · rcases hres r hr with ⟨h, hl⟩ | ⟨x, e, hk, hx, hp, ho, h1, h2, h3, h4⟩
    · obtain ⟨x, e, hk, ho, h1, h2, h3, h4⟩ := D.en r h
      refine ⟨x, e, hk, ho, hl.trans h1, ?_, SV.los_mono hc _ h3, h4⟩
      rw [he.p _ (D.lo.res r h).1, h2, SV.exts he _ h3]
    · exact ⟨x, e, hk, ho, h1, h2, h3, h4⟩

theorem look_ne {α : Type} {l : List (Nat × α)} {k x : Nat} {v : α} (h : k ≠ x) : look ((k, v) :: l) x = look l x := by
  simp [look, h]
theorem look_hd {α : Type} {l : List (Nat × α)} {k : Nat} {v : α} : look ((k, v) :: l) k = some v := by
  simp [look]

theorem matD_sound {P : Program} {T s : Nat} {v u : SV} {d d' : DS} (h : matD T s v d = some (u, d')) (hv : SV.lo d.st.ctr v = true) {w0 w : World} {ρ : Env Pl} (D : DSat w0 ρ d w) :
    ∃ ρ', SV.den ρ' u = SV.den ρ v ∧ SV.lo d'.st.ctr u = true ∧ Same d d' ∧ Step w0 ρ d ρ' d' w ∧ ∃ x, u = .slc x := by
  unfold matD at h
  split at h
  · split at h
    · rename_i h0
      cases h
      have ha : (rowNil T s 0).toRowX.apply [] d.st = some ([], .slc (d.st.ctr + 0), { d.st with ctr := d.st.ctr + 1, res := { tag := 0, p := d.st.ctr + 0, key := .slc (d.st.ctr + 0), own := true } :: ([] ++ d.st.res) }) := rfl
      have := apply_sound (rowNil_ok P (T := T) (s := s) 0 h0) ha D.lo D.H trivial
      obtain ⟨o, ⟨hp, hs⟩, -, H⟩ : ∃ o : Out Pl, (rowNil T s 0).rel (SV.dens ρ []) ([].map ρ.p) o ∧ _ ∧ _ := this
      refine ⟨ρ.put d.st.ctr o, ?_, by simp [SV.lo], ⟨rfl, rfl, rfl⟩, ⟨Ext.put _ _ _, Nat.le_succ _, ?_⟩, _, rfl⟩
      · simp [SV.den, Out.put, hs]
      · refine D.more (Nat.le_succ _) (Ext.put _ _ _) H fun r hr => ?_
        rcases List.mem_cons.1 hr with rfl | hr
        · exact .inr ⟨_, _, rfl, Nat.lt_succ_self _, Nat.lt_succ_self _, rfl, look_hd, by simp [Out.put, hp, SV.dens], rfl, by simp⟩
        · exact .inl ⟨hr, look_ne (Nat.ne_of_gt (D.lo.res r hr).1)⟩
    · cases h
  · cases h
    exact ⟨ρ, rfl, hv, Same.refl _, Step.refl D, _, rfl⟩
  · cases h

theorem bsD_sound {P : Program} {T s n : Nat} {args : List SV} {v : SV} {d d' : DS} (h : bsD T s n args d = some (v, d')) {w0 w : World} {ρ : Env Pl} (D : DSat w0 ρ d w) :
    SV.lo d'.st.ctr v = true ∧ Same d d' ∧ Does P (.bs T s n) (SV.dens ρ args) w fun e w' => ∃ ρ', e = .returned (SV.den ρ' v) ∧ Step w0 ρ d ρ' d' w' := by
  unfold bsD at h
  split at h
  · rename_i hc
    simp only [Bool.and_eq_true, decide_eq_true_eq] at hc
    obtain ⟨⟨⟨h1, h2⟩, h3⟩, h4⟩ := hc
    cases h
    refine ⟨by simp [SV.lo], ⟨rfl, rfl, rfl⟩, ?_⟩
    have ha : (rowBS2 T s n 0).toRowX.apply args d.st = some ([], .slc (d.st.ctr + 0), { d.st with ctr := d.st.ctr + 1, res := { tag := 0, p := d.st.ctr + 0, key := .slc (d.st.ctr + 0), own := true } :: ([] ++ d.st.res) }) := rfl
    refine Does.mono (apply_sound (rowBS2_ok P T s n 0) ha D.lo D.H ⟨by rw [dens_len]; exact h1, h2, Nat.le_trans h3 (by decide)⟩) ?_
    rintro e w' ⟨o, ⟨hp, hs⟩, he, H⟩
    refine ⟨ρ.put d.st.ctr o, he, Ext.put _ _ _, Nat.le_succ _, D.more (Nat.le_succ _) (Ext.put _ _ _) H fun r hr => ?_⟩
    rcases List.mem_cons.1 hr with rfl | hr
    · refine .inr ⟨_, _, rfl, Nat.lt_succ_self _, Nat.lt_succ_self _, rfl, look_hd, ?_, SV.los_mono (Nat.le_succ _) _ h4, h1.symm⟩
      rw [SV.exts (Ext.put ρ d.st.ctr o) _ h4]
      simp [Out.put, hp]
    · exact .inl ⟨hr, look_ne (Nat.ne_of_gt (D.lo.res r hr).1)⟩
  · cases h

theorem pullQ_eq : ∀ (l : List Res) (x : Nat), pullRes l (.slc x) 0 = pullQ l x
  | [], _ => rfl
  | r :: l, x => by
    have hb : (r.tag == 0 && SV.beq r.key (.slc x)) = isRow r x := by
      unfold isRow
      cases hk : r.key <;> simp only [SV.beq, Bool.and_false]
      rw [Bool.eq_iff_iff]
      simp only [Bool.and_eq_true, beq_iff_eq, Nat.beq_eq]
      exact and_comm
    unfold pullRes pullQ
    rw [pullQ_eq l x, hb]
    cases isRow r x
    · simp only [Bool.false_eq_true, if_false]
      cases pullQ l x <;> rfl
    · rfl
theorem pullQ_spec {l rest : List Res} {x : Nat} {r : Res} (h : pullQ l x = some (r, rest)) : l.Perm (r :: rest) ∧ r.key = .slc x := by
  rw [← pullQ_eq] at h
  exact pull_spec h
theorem app_apply {t e s bytes x y : Nat} {st : St} {r1 r2 : Res} {rest1 rest2 : List Res} (h1 : pullQ st.res x = some (r1, rest1)) (h2 : pullQ rest1 y = some (r2, rest2)) (o1 : r1.own = true) (o2 : r2.own = true) :
    (rowApp2 t e s bytes 0).toRowX.apply [.slc x, .slc y] st = some ([r1.p, r2.p], .slc st.ctr, { st with ctr := st.ctr + 3, res := { tag := 0, p := st.ctr + 2, key := .slc st.ctr, own := true } :: { r2 with p := st.ctr + 1 } :: rest2 }) := by
  rw [← pullQ_eq] at h1 h2
  simp [RowX.apply, rowApp2, rowApp, needX, argX, h1, h2, o1, o2, newsX, At.sv, Rt.sv]
theorem look_popE {en : List (Nat × EnD)} {p : Nat} {rest : List Res} {r : Res} (hr : r ∈ rest) : look (popE en p rest) r.p = look en r.p := by
  unfold popE
  split
  · rfl
  · split
    · rename_i h
      simp only [Bool.and_eq_true, List.all_eq_true] at h
      have := h.2 r hr
      refine (look_ne ?_).symm
      intro e
      rw [← e] at this
      simp at this
    · rfl

theorem appD_sound {P : Program} {t u : Nat} {args : List SV} {v : SV} {d d' : DS} (h : appD P t u args d = some (v, d')) (hargs : SV.los d.st.ctr args = true) {w0 w : World} {ρ : Env Pl} (D : DSat w0 ρ d w) :
    SV.lo d'.st.ctr v = true ∧ Same d d' ∧ Does P (.app t u) (SV.dens ρ args) w fun e w' => ∃ ρ', e = .returned (SV.den ρ' v) ∧ Step w0 ρ d ρ' d' w' := by
  unfold appD at h
  split at h
  case isFalse => cases h
  rename_i htu
  subst htu
  split at h
  case h_2 => cases h
  rename_i e hu
  split at h
  case h_2 => cases h
  rename_i s bytes hb
  split at h
  case h_2 => cases h
  rename_i a b
  simp only [SV.los, Bool.and_eq_true] at hargs
  split at h
  case h_2 => cases h
  rename_i a1 d1 ha
  obtain ⟨ρ1, e1, l1, S1, T1, -⟩ := matD_sound (P := P) ha hargs.1 D
  split at h
  case h_2 => cases h
  rename_i y d2 hb2
  obtain ⟨ρ2, e2, l2, S2, T2, -⟩ := matD_sound (P := P) hb2 (SV.lo_mono T1.ctr _ hargs.2.1) T1.sat
  split at h
  case h_2 => cases h
  rename_i x
  split at h
  case h_2 => cases h
  rename_i p ex q ey hx hy
  split at h
  case isFalse => cases h
  rename_i hc
  simp only [Bool.and_eq_true, decide_eq_true_eq] at hc
  obtain ⟨⟨⟨⟨⟨⟨⟨ht, c1⟩, c2⟩, c3⟩, c4⟩, c5⟩, c6⟩, c7⟩ := hc
  split at h
  case h_2 => cases h
  rename_i r1 rest1 hr1
  split at h
  case h_2 => cases h
  rename_i r2 rest2 hr2
  split at h
  case isFalse => cases h
  rename_i hpq
  simp only [Bool.and_eq_true] at hpq
  obtain ⟨⟨⟨ho1, ho2⟩, hp1⟩, hp2⟩ := hpq
  have hp1 := Nat.eq_of_beq_eq_true hp1
  have hp2 := Nat.eq_of_beq_eq_true hp2
  subst hp1 hp2
  have hap := app_apply (t := t) (e := e) (s := s) (bytes := bytes) hr1 hr2 ho1 ho2
  have D2 := T2.sat
  obtain ⟨-, X1, X2, X3, -⟩ := D2.row hx
  obtain ⟨-, Y1, Y2, Y3, -⟩ := D2.row hy
  obtain ⟨k1, hk1⟩ := pullQ_spec hr1
  obtain ⟨k2, hk2⟩ := pullQ_spec hr2
  have c5 := Nat.le_of_ble_eq_true c5
  have c6 := Nat.le_of_ble_eq_true c6
  have lx : ex.n * s = ex.cells.length := by rw [← X3, c3]
  have ly : ey.n * s = ey.cells.length := by rw [← Y3, c4]
  rw [lx, ly] at c5 c6
  have hv : v = .slc d2.st.ctr ∧ d'.st.ctr = d2.st.ctr + 3 ∧ Same d2 d' ∧ (d' = { st := { d2.st with ctr := d2.st.ctr + 3, res := { tag := 0, p := d2.st.ctr + 2, key := .slc d2.st.ctr, own := true } :: rest2 }, en := (d2.st.ctr + 2, ⟨e, s, ex.n + ey.n, ex.cells ++ ey.cells⟩) :: popE (popE d2.en r2.p rest2) r1.p rest2 } ∨
      d' = { st := { d2.st with ctr := d2.st.ctr + 3, res := { tag := 0, p := d2.st.ctr + 2, key := .slc d2.st.ctr, own := true } :: { r2 with p := d2.st.ctr + 1 } :: rest2 }, en := (d2.st.ctr + 2, ⟨e, s, ex.n + ey.n, ex.cells ++ ey.cells⟩) :: (d2.st.ctr + 1, ey) :: popE d2.en r1.p rest2 }) := by
    obtain ⟨⟨fn, nt, ctr, tmps, heap, res, asm⟩, en⟩ := d2
    simp only [forceN_eq] at h
    split at h
    · cases h; exact ⟨rfl, rfl, ⟨rfl, rfl, rfl⟩, .inl rfl⟩
    · cases h; exact ⟨rfl, rfl, ⟨rfl, rfl, rfl⟩, .inr rfl⟩
  obtain ⟨rfl, hctr, hsame, hd'⟩ := hv
  refine ⟨by rw [hctr]; simp [SV.lo], (S1.trans S2).trans hsame, ?_⟩
  have hden : SV.dens ρ [a, b] = SV.dens ρ2 [SV.slc x, SV.slc y] := by
    simp only [SV.dens, List.cons.injEq, and_true]
    refine ⟨?_, ?_⟩
    · rw [← e1, SV.ext T2.ext _ l1]
    · rw [e2, SV.ext T1.ext _ hargs.2.1]
  rw [hden]
  refine Does.mono (apply_sound (rowApp2_ok ht 0) hap D2.lo D2.H ⟨_, _, SV.dens ρ2 ex.cells, SV.dens ρ2 ey.cells, rfl, ?_, ?_, ?_, ?_⟩) ?_
  · simp only [List.map_cons, List.map_nil, X1, Y1, c1, c2, c3, c4]
  · simpa only [dens_len] using c5
  · simp only [dens_len]; exact Nat.le_trans c6 (by decide)
  · intro u hu
    rw [dens_map] at hu
    obtain ⟨z, hz, rfl⟩ := List.mem_map.1 hu
    exact flat_den _ _ (List.all_eq_true.1 c7 z hz)
  · rintro e' w' ⟨o, hrel, he, H⟩
    obtain ⟨o1, o2, -⟩ := hrel (SV.dens ρ2 ex.cells) (SV.dens ρ2 ey.cells) (by simp only [List.map_cons, List.map_nil, X1, Y1, c1, c2, c3, c4])
    have hx2 := SV.los_mono (Nat.le_add_right d2.st.ctr 3) _ X2
    have hy2 := SV.los_mono (Nat.le_add_right d2.st.ctr 3) _ Y2
    have mem2 : r2 ∈ d2.st.res := k1.mem_iff.2 (List.mem_cons_of_mem _ (k2.mem_iff.2 (List.mem_cons_self ..)))
    have memr : ∀ r ∈ rest2, r ∈ d2.st.res := fun r hr => k1.mem_iff.2 (List.mem_cons_of_mem _ (k2.mem_iff.2 (List.mem_cons_of_mem _ hr)))
    have isnew : ∀ en, (look ((d2.st.ctr + 2, (⟨e, s, ex.n + ey.n, ex.cells ++ ey.cells⟩ : EnD)) :: en) (d2.st.ctr + 2) = some ⟨e, s, ex.n + ey.n, ex.cells ++ ey.cells⟩) := fun en => look_hd
    have newr : (ρ2.put d2.st.ctr o).p (d2.st.ctr + 2) = .row e s (SV.dens (ρ2.put d2.st.ctr o) (ex.cells ++ ey.cells)) ∧ SV.los (d2.st.ctr + 3) (ex.cells ++ ey.cells) = true ∧ (ex.n + ey.n) * s = (ex.cells ++ ey.cells).length := by
      refine ⟨?_, ?_, ?_⟩
      · simp only [dens_app, SV.exts (Ext.put ρ2 d2.st.ctr o) _ X2, SV.exts (Ext.put ρ2 d2.st.ctr o) _ Y2]
        simp [Out.put, o1]
      · rw [los_mem] at hx2 hy2 ⊢
        intro v hv
        rcases List.mem_append.1 hv with hv | hv
        · exact hx2 v hv
        · exact hy2 v hv
      · simp only [List.length_append, Nat.add_mul, lx, ly]
    refine ⟨ρ2.put d2.st.ctr o, he, (T1.trans T2).ext.trans (Ext.put _ _ _) (Nat.le_trans T1.ctr T2.ctr), ?_, ?_⟩
    · have h1 := T1.ctr
      have h2 := T2.ctr
      rw [hctr]
      omega
    rcases hd' with rfl | rfl
    · have H' : HSat PI F0 w0 (ρ2.put d2.st.ctr o) d2.st.heap ({ tag := 0, p := d2.st.ctr + 2, key := .slc d2.st.ctr, own := true } :: rest2) w' := by
        have hsub : ({ tag := 0, p := d2.st.ctr + 2, key := .slc d2.st.ctr, own := true } :: rest2 : List Res).Sublist ({ tag := 0, p := d2.st.ctr + 2, key := .slc d2.st.ctr, own := true } :: { r2 with p := d2.st.ctr + 1 } :: rest2) := (List.sublist_cons_self _ _).cons_cons _
        exact ⟨H.blk, H.dist, fun e he => H.res e (hsub.subset he), fun e he => H.apart e (hsub.subset he), H.sep.sublist hsub, fun e he => H.per e (hsub.subset he), H.mine, fun e he => H.mineR e (hsub.subset he), fun e he => H.shar e (hsub.subset he), H.frame⟩
      refine D2.more (Nat.le_add_right _ 3) (Ext.put _ _ _) H' fun r hr => ?_
      rcases List.mem_cons.1 hr with rfl | hr
      · exact .inr ⟨_, ⟨e, s, ex.n + ey.n, ex.cells ++ ey.cells⟩, rfl, by omega, by simp, rfl, look_hd, newr⟩
      · have := (D2.lo.res r (memr r hr)).1
        exact .inl ⟨memr r hr, by rw [look_ne (by omega), look_popE hr, look_popE hr]⟩
    · refine D2.more (Nat.le_add_right _ 3) (Ext.put _ _ _) H fun r hr => ?_
      rcases List.mem_cons.1 hr with rfl | hr
      · exact .inr ⟨_, ⟨e, s, ex.n + ey.n, ex.cells ++ ey.cells⟩, rfl, by omega, by simp, rfl, look_hd, newr⟩
      · rcases List.mem_cons.1 hr with rfl | hr
        · refine .inr ⟨y, ey, hk2, ?_, by simp, ho2, ?_, ?_, hy2, Y3⟩
          · have := (D2.lo.res r2 mem2).2
            rw [hk2] at this
            simp only [SV.lo, decide_eq_true_eq] at this
            omega
          · show look _ (d2.st.ctr + 1) = _
            rw [look_ne (by omega), look_hd]
          · simp only [SV.exts (Ext.put ρ2 d2.st.ctr o) _ Y2]
            simp [Out.put, o2, c2, c4]
        · have := (D2.lo.res r (memr r hr)).1
          exact .inl ⟨memr r hr, by rw [look_ne (by omega), look_ne (by omega), look_popE hr]⟩
end Go.Sx

namespace Go.Sx
open Go

theorem loadVar_cells {P : Program} {T n : Nat} (hagg : isAggB P T = some true) (hsz : sizeX P T = some n) {w : World} {g off : Nat} {ys : List Value} (hl : ys.length = n)
    (hc : ∀ j x, ys[j]? = some x → w.cell? ⟨g, off + j, none⟩ = some x) : (loadVar T ⟨g, off, none⟩).run P w = .ok (.agg ys.toArray) w := by
  have key : ∀ (n i : Nat) (acc : Array Value), i + n = ys.length → (loadCellsFrom ⟨g, off, none⟩ i n acc).run P w = .ok (acc ++ (ys.drop i).toArray) w := by
    intro n
    induction n with
    | zero =>
      intro i acc hi
      simp only [loadCellsFrom, Sem.run_pure]
      rw [List.drop_of_length_le (by omega)]
      simp
    | succ n ih =>
      intro i acc hi
      have hlt : i < ys.length := by omega
      have h1 := hc i _ (List.getElem?_eq_getElem hlt)
      simp only [loadCellsFrom, Sem.run_bind, run_load, add_at, h1, Result.andThen_ok]
      rw [ih (i + 1) _ (by omega), List.drop_eq_getElem_cons hlt]
      simp
  have := key n 0 #[] (by omega)
  simp only [List.drop_zero] at this
  simp [loadVar, run_isAgg hagg, run_sizeOf hsz, loadCells, this]

theorem ldD_sound {P : Program} {T s x i : Nat} {v : SV} {d : DS} (h : ldD P T s d x i = some v) {w0 w : World} {ρ : Env Pl} (D : DSat w0 ρ d w) :
    (Instr.loadAt T (SV.den ρ (.elem x (.lit (.ofNat i)) s))).run P w = .ok (SV.den ρ v) w ∧ SV.lo d.st.ctr v = true := by
  unfold ldD at h
  split at h
  case h_2 => cases h
  rename_i p e hr
  obtain ⟨hh, -, hlo, hn, h0, hlen, hsome⟩ := D.row hr
  split at h
  case isFalse => cases h
  rename_i hc
  simp only [Bool.and_eq_true, decide_eq_true_eq] at hc
  obtain ⟨rfl, hi⟩ := hc
  obtain ⟨-, m, hown⟩ := holds_row.1 hh
  have hslc : ∃ g cap, ρ.s x = (some ⟨g, 0, none⟩, e.n, cap) := by
    rcases hown.2 with ⟨h1, -⟩ | ⟨g, cap, cur, h1, -⟩
    · simp only [SV.den, Value.slice.injEq] at h1
      have := hsome (by omega)
      rw [h1.1] at this
      simp at this
    · simp only [SV.den, Value.slice.injEq] at h1
      refine ⟨g, cap, ?_⟩
      rw [← hlen, h1.2.1, ← h1.1, ← h1.2.2, ← h1.2.1]
  obtain ⟨g, cap, hs⟩ := hslc
  have hcell := hown.cells (g := g) (by simp [SV.den, hs, Value.ownBlock])
  have hle : (i + 1) * e.s ≤ e.cells.length := by rw [← hn]; exact Nat.mul_le_mul_right _ hi
  rw [Nat.add_mul, Nat.one_mul] at hle
  have hc2 : ∀ j u, (SV.dens ρ (cutX e.cells (i * e.s) e.s))[j]? = some u → w.cell? ⟨g, i * e.s + j, none⟩ = some u := fun j u hu => by
    rw [dens_map, List.getElem?_map, cutX] at hu
    obtain ⟨y, hy, rfl⟩ := Option.map_eq_some_iff.1 hu
    rw [List.getElem?_take] at hy
    split at hy
    · rw [List.getElem?_drop] at hy
      have := hcell (i * e.s + j) (SV.den ρ y) (by rw [dens_map, List.getElem?_map, hy]; rfl)
      rw [add_at] at this
      simpa using this
    · cases hy
  have haddr : SV.den ρ (.elem x (.lit (.ofNat i)) e.s) = .pointer (some ⟨g, i * e.s, none⟩) := by
    simp only [SV.den, hs, Option.map_some, IE.den, add_at]
    simp
  rw [haddr]
  simp only [Instr.loadAt, Instr.sureAddr, Sem.run_bind, Sem.run_pure, Result.andThen_ok]
  rw [los_mem] at hlo
  split at h
  · rename_i m' ha hm
    split at h
    · rename_i hms
      cases h
      subst hms
      refine ⟨?_, ?_⟩
      · rw [loadVar_cells ha hm (ys := SV.dens ρ (cutX e.cells (i * e.s) e.s)) (by rw [dens_len, cutX, List.length_take, List.length_drop]; omega) hc2]
        simp [SV.den]
      · rw [SV.lo, los_mem]
        intro y hy
        exact hlo y (List.mem_of_mem_drop (List.mem_of_mem_take hy))
    · cases h
  · rename_i m' ha hm
    split at h
    · rename_i hms
      simp only [Bool.and_eq_true, decide_eq_true_eq, beq_iff_eq] at hms
      obtain ⟨rfl, hs1⟩ := hms
      refine ⟨?_, hlo v (List.mem_of_getElem? h)⟩
      have := hcell i (SV.den ρ v) (by rw [dens_map, List.getElem?_map, h]; rfl)
      rw [add_at] at this
      simp only [Nat.zero_add] at this
      rw [hs1, Nat.mul_one]
      simp [loadVar, run_isAgg ha, this]
    · cases h
  · cases h

theorem st_apply {T s : Nat} {a b c : SV} {st st' : St} {ps : List Nat} {v : SV} (h : (rowSt T s 0).toRowX.apply [a, b, c] st = some (ps, v, st')) :
    ∃ r1 rest1, pullRes st.res a 0 = some (r1, rest1) ∧ r1.own = true ∧ ps = [r1.p] ∧ v = .tup [] ∧ st' = { st with ctr := st.ctr + 1, res := { r1 with p := st.ctr + 0 } :: rest1 } := by
  simp only [RowX.apply, rowSt, needX, argX, List.getElem?_cons_zero, reduceIte, Nat.reduceLT, reduceCtorEq] at h
  cases h1 : pullRes st.res a 0 with
  | none => simp [h1] at h
  | some x =>
    obtain ⟨r1, rest1⟩ := x
    cases hr1 : r1.own <;> simp [h1, hr1] at h
    obtain ⟨rfl, rfl, rfl⟩ := h
    exact ⟨r1, rest1, rfl, hr1, rfl, rfl, by simp [newsX, hr1]⟩

theorem stD_sound {P : Program} {T s x i : Nat} {v : SV} {d d' : DS} (h : stD P T s d x i v = some d') {w0 w : World} {ρ : Env Pl} (D : DSat w0 ρ d w) (k : IntKind) :
    Same d d' ∧ Does P (.st T s) (SV.dens ρ [.slc x, .int k (.lit (.ofNat i)), v]) w fun e w' => ∃ ρ', e = .returned undef ∧ Step w0 ρ d ρ' d' w' := by
  unfold stD at h
  split at h
  case h_2 => cases h
  rename_i p e hr
  obtain ⟨hh, hp, hlo, hn, h0, hlen, hsome⟩ := D.row hr
  split at h
  case isFalse => cases h
  rename_i hc
  simp only [Bool.and_eq_true, decide_eq_true_eq] at hc
  obtain ⟨⟨⟨⟨⟨⟨⟨c1, c2⟩, c3⟩, c4⟩, c5⟩, c6⟩, c7⟩, c8⟩ := hc
  split at h
  case h_2 => cases h
  rename_i p' v' st' hap
  split at h
  case isFalse => cases h
  rename_i hpp
  subst hpp
  simp only [Option.some.injEq] at h
  subst h
  obtain ⟨r1, rest1, hr1, ho1, hps, rfl, rfl⟩ := st_apply hap
  simp only [List.cons.injEq, and_true] at hps
  subst hps
  obtain ⟨k1, hk1⟩ := pull_spec hr1
  refine ⟨⟨rfl, rfl, rfl⟩, ?_⟩
  have hap' : (rowSt T s 0).toRowX.apply [.slc x, .int k (.lit (.ofNat i)), v] d.st = some ([r1.p], .tup [], { d.st with ctr := d.st.ctr + 1, res := { r1 with p := d.st.ctr + 0 } :: rest1 }) := by
    simp [RowX.apply, rowSt, needX, argX, hr1, ho1, newsX, Rt.sv]
  have hcs := cells_den ρ v
  refine Does.mono (apply_sound (rowSt_ok c4 0 c5) hap' D.lo D.H ⟨SV.den ρ (.slc x), k, .ofNat i, SV.den ρ v, SV.dens ρ e.cells, rfl, ?_, ?_, ?_, ?_, ?_⟩) ?_
  · simp only [List.map_cons, List.map_nil, hp, c1, c2]
  · exact Int.natCast_nonneg i
  · rw [dens_len, ← hn, c2]
    exact Nat.mul_le_mul_right _ c3
  · rw [hcs]; simp [dens_len, c6]
  · rw [hcs]
    intro u hu
    simp only [dens_map] at hu
    obtain ⟨z, hz, rfl⟩ := List.mem_map.1 hu
    exact flat_den _ _ (List.all_eq_true.1 c7 z hz)
  · rintro e' w' ⟨o, hrel, he, H⟩
    have ho := hrel (SV.den ρ (.slc x)) k (.ofNat i) (SV.den ρ v) (SV.dens ρ e.cells) rfl (by simp only [List.map_cons, List.map_nil, hp, c1, c2])
    refine ⟨ρ.put d.st.ctr o, by rw [he]; simp [SV.den, SV.dens, undef], Ext.put _ _ _, Nat.le_succ _, D.more (Nat.le_succ _) (Ext.put _ _ _) H fun r hr => ?_⟩
    have hlov : SV.los d.st.ctr v.cells = true := by
      rw [los_mem]
      intro y hy
      cases v <;> simp only [SV.cells, List.mem_singleton] at hy <;> first
        | (subst hy; exact c8)
        | (simp only [SV.lo, los_mem] at c8; exact c8 y hy)
    have hput : SV.los d.st.ctr (putX e.cells (i * s) v.cells) = true := by
      rw [los_mem] at hlo hlov ⊢
      have : ∀ (l : List SV) (n : Nat) (vs : List SV), ∀ y ∈ putX l n vs, y ∈ l ∨ y ∈ vs := by
        intro l
        induction l with
        | nil => intro n vs y hy; cases vs <;> simp [putX] at hy
        | cons a l ih =>
          intro n vs y hy
          cases vs with
          | nil => simp only [putX] at hy; exact .inl hy
          | cons b vs =>
            cases n with
            | zero =>
              simp only [putX, List.mem_cons] at hy
              rcases hy with rfl | hy
              · exact .inr (List.mem_cons_self ..)
              · exact (ih 0 vs y hy).imp (List.mem_cons_of_mem _) (List.mem_cons_of_mem _)
            | succ n =>
              simp only [putX, List.mem_cons] at hy
              rcases hy with rfl | hy
              · exact .inl (List.mem_cons_self ..)
              · exact (ih n (b :: vs) y hy).imp (List.mem_cons_of_mem _) id
      intro y hy
      exact (this _ _ _ y hy).elim (hlo y) (hlov y)
    have hputl : ∀ (l : List SV) (n : Nat) (vs : List SV), (putX l n vs).length = l.length := by
      intro l
      induction l with
      | nil => intro n vs; cases vs <;> simp [putX]
      | cons a l ih =>
        intro n vs
        cases vs with
        | nil => simp [putX]
        | cons b vs => cases n <;> simp [putX, ih]
    have mem1 : r1 ∈ d.st.res := k1.mem_iff.2 (List.mem_cons_self ..)
    rcases List.mem_cons.1 hr with rfl | hr
    · refine .inr ⟨x, ⟨T, s, e.n, putX e.cells (i * s) v.cells⟩, hk1, ?_, by simp, ho1, look_hd, ?_, SV.los_mono (Nat.le_succ _) _ hput, ?_⟩
      · have := (D.lo.res r1 mem1).2
        rw [hk1] at this
        simp only [SV.lo, decide_eq_true_eq] at this
        omega
      · simp only [SV.exts (Ext.put ρ d.st.ctr o) _ hput, put_den]
        simp [Out.put, ho, hcs]
      · simp only [hputl, ← hn, c2]
    · have hm : r ∈ d.st.res := k1.mem_iff.2 (List.mem_cons_of_mem _ hr)
      have := (D.lo.res r hm).1
      exact .inl ⟨hm, look_ne (by omega)⟩

/-! a row that is made -/
def rowMk (t e s n : Nat) (z : List Value) : Row Pl where
  f := .mk t
  needs := []
  ret := .one (.slc 0)
  news := [(0, 0, .slc 0, true)]
  width := 1
  pre vs _ := ∃ k l, vs = [.int k n, .int l n]
  rel _ _ o := o.p 0 = .row e s z
theorem rep_get (ρ : Env Pl) (z : List SV) (hz : 0 < z.length) (n : Nat) : (madeCells (SV.dens ρ z).toArray (n * z.length)).toList = SV.dens ρ (repX n z) := by
    have key : ∀ n i, i < n * z.length → (repX n z)[i]? = z[i % z.length]? := by
      intro n
      induction n with
      | zero => intro i hi; omega
      | succ n ih =>
        intro i hi
        rw [Nat.add_mul, Nat.one_mul] at hi
        simp only [repX]
        by_cases h : i < z.length
        · rw [List.getElem?_append_left h, Nat.mod_eq_of_lt h]
        · rw [List.getElem?_append_right (by omega), ih _ (by omega), Nat.mod_eq_sub_mod (by omega : i ≥ z.length)]
    have len : ∀ n, (repX n z).length = n * z.length := by
      intro n
      induction n with
      | zero => simp [repX]
      | succ n ih => simp only [repX, List.length_append, ih, Nat.add_mul, Nat.one_mul]; omega
    apply List.ext_getElem?
    intro i
    rw [dens_map ρ (repX n z), List.getElem?_map]
    by_cases h : i < n * z.length
    · rw [key n i h]
      have hm : i % z.length < z.length := Nat.mod_lt _ hz
      simp only [madeCells, Array.toList_map, Array.toList_range, List.getElem?_map, List.getElem?_range h, Option.map_some, List.size_toArray, dens_len, List.getElem?_eq_getElem hm]
      rw [getElem!_pos _ _ (by simpa [dens_len] using hm)]
      simp [dens_map]
    · rw [List.getElem?_eq_none (by simp [size_madeCells]; omega), List.getElem?_eq_none (by rw [len]; omega)]
      rfl
theorem rowMk_ok {P : Program} {t e s n bytes : Nat} {z : SV} (ht : P.underlying t = some (.slice e)) (hb : bytesX P e = some (s, bytes)) (hz : zeroX P e = some z) (h0 : 0 < s) (hzl : z.cells.length = s)
    (hbytes : bytes * n ≤ 140737488355328) (hn : n ≤ 1000000) (ρ : Env Pl) : RowOK P PI (rowMk t e s n (SV.dens ρ (repX n z.cells))) := by
  intro vs ps w hneed hsep hper hpre
  obtain ⟨k, l, rfl⟩ := hpre
  obtain ⟨i, hi, hiz⟩ := zeroX_den ρ hz
  simp only [bytesX, hi, Option.map_some, Option.some.injEq, Prod.mk.injEq] at hb
  obtain ⟨hs, hbb⟩ := hb
  obtain ⟨w', hr, ho, hg⟩ := run_make_full (P := P) (w := w) 0 t e i _ s ht hi hiz hs k l n (by rw [hbb]; omega) (Nat.le_trans hn (by decide)) (Nat.zero_le _)
  rw [cells_den, ← hzl, rep_get ρ z.cells (by omega) n, hzl] at ho
  refine ⟨_, w', hr, { out0 with s := fun _ => (some ⟨w.heap.size, 0, none⟩, n, n), p := fun _ => .row e s (SV.dens ρ (repX n z.cells)) }, rfl, rfl, ?_, by simp [newsL, afterL, rowMk], fr_grown hg _ fun i hi => by cases hi⟩
  intro x hx
  simp only [newsL, afterL, rowMk, List.append_nil, List.mem_singleton] at hx
  subst hx
  refine ⟨holds_row.2 ⟨h0, _, ho⟩, fun i hi => ?_, fun i hi => absurd hi sh_row, fun h => by cases h⟩
  have := foot_row.1 hi
  simp only [At.val, Value.ownBlock, Option.some.injEq] at this
  exact .inr (by omega)
theorem mkD_sound {P : Program} {t : Nat} {args : List SV} {v : SV} {d d' : DS} (h : mkD P t args d = some (v, d')) {w0 w : World} {ρ : Env Pl} (D : DSat w0 ρ d w) :
    SV.lo d'.st.ctr v = true ∧ Same d d' ∧ Does P (.mk t) (SV.dens ρ args) w fun e w' => ∃ ρ', e = .returned (SV.den ρ' v) ∧ Step w0 ρ d ρ' d' w' := by
  unfold mkD at h
  split at h
  case h_2 => cases h
  rename_i k n l m
  split at h
  case isFalse => cases h
  rename_i hnm
  simp only [Bool.and_eq_true, decide_eq_true_eq] at hnm
  obtain ⟨rfl, hn⟩ := hnm
  split at h
  case h_2 => cases h
  rename_i e ht
  split at h
  case h_2 => cases h
  rename_i s bytes z hb hz
  split at h
  case isFalse => cases h
  rename_i hc
  simp only [Bool.and_eq_true, decide_eq_true_eq] at hc
  obtain ⟨⟨h0, hzl⟩, hbytes⟩ := hc
  simp only [Option.some.injEq, Prod.mk.injEq] at h
  obtain ⟨rfl, rfl⟩ := h
  refine ⟨by simp [SV.lo], ⟨rfl, rfl, rfl⟩, ?_⟩
  have hzlo : SV.los d.st.ctr (repX n z.cells) = true := by
    have hz1 : SV.lo d.st.ctr z = true := by
      unfold zeroX at hz
      split at hz
      · split at hz
        · exact ofV_lo _ _ _ _ hz
        · cases hz
      · cases hz
    have hz2 : ∀ y ∈ z.cells, SV.lo d.st.ctr y = true := fun y hy => by
      cases z <;> simp only [SV.cells, List.mem_singleton] at hy <;> first
        | (subst hy; exact hz1)
        | (simp only [SV.lo, los_mem] at hz1; exact hz1 y hy)
    rw [los_mem]
    clear hzl hbytes hn
    induction n with
    | zero => intro y hy; simp [repX] at hy
    | succ n ih =>
      intro y hy
      simp only [repX, List.mem_append] at hy
      exact hy.elim (hz2 y) (ih y)
  have ha : (rowMk t e s n (SV.dens ρ (repX n z.cells))).toRowX.apply [.int k (.lit (.ofNat n)), .int l (.lit (.ofNat n))] d.st = some ([], .slc (d.st.ctr + 0), { d.st with ctr := d.st.ctr + 1, res := { tag := 0, p := d.st.ctr + 0, key := .slc (d.st.ctr + 0), own := true } :: ([] ++ d.st.res) }) := rfl
  refine Does.mono (apply_sound (rowMk_ok ht hb hz h0 hzl hbytes hn ρ) ha D.lo D.H ⟨k, l, rfl⟩) ?_
  rintro e' w' ⟨o, hp, he, H⟩
  refine ⟨ρ.put d.st.ctr o, he, Ext.put _ _ _, Nat.le_succ _, D.more (Nat.le_succ _) (Ext.put _ _ _) H fun r hr => ?_⟩
  rcases List.mem_cons.1 hr with rfl | hr
  · refine .inr ⟨_, ⟨e, s, n, repX n z.cells⟩, rfl, Nat.lt_succ_self _, Nat.lt_succ_self _, rfl, look_hd, ?_, SV.los_mono (Nat.le_succ _) _ hzlo, ?_⟩
    · rw [SV.exts (Ext.put ρ d.st.ctr o) _ hzlo]
      have hp' : o.p 0 = .row e s (SV.dens ρ (repX n z.cells)) := hp
      simp [Out.put, hp']
    · clear hbytes hn hzlo ha hp he H
      induction n with
      | zero => simp [repX]
      | succ n ih => simp only [repX, List.length_append, hzl, Nat.add_mul, Nat.one_mul] at ih ⊢; omega
  · exact .inl ⟨hr, look_ne (Nat.ne_of_gt (D.lo.res r hr).1)⟩
end Go.Sx

namespace Go.Sx
open Go

theorem put_eq (d : DS) (t : Option Nat) (v : SV) : d.put t v = { d with st := d.st.put t v } := by
  obtain ⟨⟨fn, nt, ctr, tmps, heap, res, asm⟩, en⟩ := d
  cases t with
  | none => rfl
  | some t =>
    simp only [DS.put, St.put]
    split <;> rename_i h
    · rw [if_pos (of_decide_eq_true h)]
    · rw [if_neg (of_decide_eq_false h)]
theorem put_same (d : DS) (t : Option Nat) (v : SV) : (d.put t v).st.ctr = d.st.ctr ∧ (d.put t v).st.heap = d.st.heap ∧ (d.put t v).st.res = d.st.res ∧ (d.put t v).st.asm = d.st.asm ∧ (d.put t v).st.nt = d.st.nt ∧ (d.put t v).st.fn = d.st.fn ∧ (d.put t v).en = d.en := by
  rw [put_eq]
  obtain ⟨e1, e2, e3, e4, e5⟩ := put_ctr d.st t v
  refine ⟨e1, e2, e3, e4, e5, ?_, rfl⟩
  cases t with
  | none => rfl
  | some t => simp only [St.put]; split <;> rfl
theorem DSat.put {w0 w : World} {ρ : Env Pl} {d : DS} (D : DSat w0 ρ d w) (t : Option Nat) {v : SV} (hv : SV.lo d.st.ctr v = true) : DSat w0 ρ (d.put t v) w := by
  obtain ⟨e1, e2, e3, e4, e5, -, e6⟩ := put_same d t v
  refine ⟨by rw [e2, e3]; exact D.H, ⟨fun x hx => ?_, by rw [e1, e2]; exact D.lo.heap, by rw [e1, e3]; exact D.lo.res, by rw [e1, e4]; exact D.lo.asm⟩, by rw [e4]; exact D.asm, by rw [e1, e3, e6]; exact D.en⟩
  rw [e1]
  rw [put_eq] at hx
  cases t with
  | none => exact D.lo.tmps x hx
  | some t =>
    simp only [St.put] at hx
    split at hx
    · rcases List.mem_cons.1 hx with rfl | hx
      · exact hv
      · exact D.lo.tmps x hx
    · exact D.lo.tmps x hx
theorem put_tsatD {ρ : Env Pl} {d : DS} {a : Act} (h : TSat ρ d.st a) (t : Option Nat) (v : SV) : TSat ρ (d.put t v).st (a.put t (SV.den ρ v)) := by
  rw [put_eq]
  exact put_tsat h t v

theorem anyBeq {t : Nat} {l : List Nat} : l.any (Nat.beq t) = true ↔ t ∈ l := by
  simp only [List.any_eq_true, Nat.beq_eq]
  exact ⟨fun ⟨x, hx, e⟩ => e ▸ hx, fun h => ⟨t, h, rfl⟩⟩
theorem look_compact : ∀ (l : List (Nat × SV)) (seen : List Nat) (t : Nat), look (compact l seen) t = if t ∈ seen then none else look l t
  | [], seen, t => by simp [compact, look]
  | (k, v) :: l, seen, t => by
    unfold compact
    split <;> rename_i h
    · rw [look_compact l seen t]
      have hk := anyBeq.1 h
      by_cases ht : t ∈ seen
      · simp [ht]
      · have : k ≠ t := fun e => ht (e ▸ hk)
        simp [ht, look, this]
    · have hk : k ∉ seen := fun hm => by rw [anyBeq.2 hm] at h; cases h
      by_cases e : k = t
      · subst e
        simp [look, hk]
      · rw [look_ne e, look_ne e, look_compact l (k :: seen) t]
        have : t ≠ k := fun h => e h.symm
        simp [this]
theorem look_prune {live : List Nat} : ∀ {l : List (Nat × SV)} {seen : List Nat} {t : Nat} {v : SV}, look (prune live l seen) t = some v → t ∉ seen ∧ look l t = some v
  | [], _, _, _, h => by simp [prune, look] at h
  | (k, u) :: l, seen, t, v, h => by
    unfold prune at h
    split at h <;> rename_i hl
    · split at h <;> rename_i hs
      · obtain ⟨h1, h2⟩ := look_prune h
        have hk := anyBeq.1 hs
        have hne : k ≠ t := fun e => by subst e; exact h1 hk
        exact ⟨h1, by rw [look_ne hne]; exact h2⟩
      · have hk : k ∉ seen := fun hm => by rw [anyBeq.2 hm] at hs; cases hs
        by_cases e : k = t
        · subst e
          rw [look_hd] at h
          exact ⟨hk, by rw [look_hd]; exact h⟩
        · rw [look_ne e] at h
          obtain ⟨h1, h2⟩ := look_prune h
          exact ⟨fun hm => h1 (List.mem_cons_of_mem _ hm), by rw [look_ne e]; exact h2⟩
    · obtain ⟨h1, h2⟩ := look_prune h
      refine ⟨h1, ?_⟩
      have he : k ≠ t := fun e => by
        subst e
        have hm : ∀ {l : List (Nat × SV)} {seen : List Nat}, look (prune live l seen) k = some v → live.any (Nat.beq k) = true := by
          intro l
          induction l with
          | nil => intro seen h; simp [prune, look] at h
          | cons x l ih =>
            intro seen h
            obtain ⟨k', u'⟩ := x
            unfold prune at h
            split at h <;> rename_i hl'
            · split at h
              · exact ih h
              · by_cases e : k' = k
                · exact e ▸ hl'
                · rw [look_ne e] at h
                  exact ih h
            · exact ih h
        rw [hm h] at hl
        cases hl
      rw [look_ne he]
      exact h2
theorem mem_prune {live : List Nat} : ∀ {l : List (Nat × SV)} {seen : List Nat} {x : Nat × SV}, x ∈ prune live l seen → x ∈ l
  | [], _, _, h => by simp [prune] at h
  | (k, v) :: l, seen, x, h => by
    unfold prune at h
    split at h
    · split at h
      · exact List.mem_cons_of_mem _ (mem_prune h)
      · rcases List.mem_cons.1 h with rfl | h
        · exact List.mem_cons_self ..
        · exact List.mem_cons_of_mem _ (mem_prune h)
    · exact List.mem_cons_of_mem _ (mem_prune h)
theorem pruned_tsat {ρ : Env Pl} {d : DS} {a : Act} {live : List Nat} (h : TSat ρ d.st a) : TSat ρ (d.pruned live).st a :=
  ⟨h.size, h.defers, fun t v hv => h.tmps t v (look_prune hv).2, h.asm⟩
theorem DSat.pruned {w0 w : World} {ρ : Env Pl} {d : DS} {live : List Nat} (D : DSat w0 ρ d w) : DSat w0 ρ (d.pruned live) w :=
  ⟨D.H, ⟨fun x hx => D.lo.tmps x (mem_prune hx), D.lo.heap, D.lo.res, D.lo.asm⟩, D.asm, D.en⟩

/-! names are told anew -/
def Out.re (ρ : Env Pl) (π : Nat → Nat) : Env Pl := ⟨fun x => ρ.i (π x), fun x => ρ.b (π x), fun x => ρ.n (π x), fun x => ρ.s (π x), fun x => ρ.p (π x)⟩
mutual
theorem alike_den {ρ : Env Pl} {π : Nat → Nat} : ∀ {u v : SV}, SV.alike π u v = true → SV.den (ρ.re π) u = SV.den ρ v
  | .bool a, v, h => by
    cases v with
    | bool b => cases a <;> cases b <;> simp_all [SV.alike, SV.den, BE.den]
    | _ => cases a <;> simp [SV.alike] at h
  | .int k a, v, h => by
    cases v with
    | int l b => cases a <;> cases b <;> simp_all [SV.alike, SV.den, IE.den]
    | _ => cases a <;> simp [SV.alike] at h
  | .ptr x o, v, h => by cases v <;> simp_all [SV.alike, SV.den, Out.re]
  | .nilptr, v, h => by cases v <;> simp_all [SV.alike, SV.den]
  | .slc x, v, h => by cases v <;> simp_all [SV.alike, SV.den, Out.re]
  | .nilslc, v, h => by cases v <;> simp_all [SV.alike, SV.den]
  | .row .., v, h => by simp [SV.alike] at h
  | .func f a b, v, h => by
    cases v <;> simp only [SV.alike, Bool.false_eq_true, Bool.and_eq_true, decide_eq_true_eq] at h
    simp only [SV.den, h.1.1, alikes_den h.1.2, alikes_den h.2]
  | .nilFunc, v, h => by cases v <;> simp_all [SV.alike, SV.den]
  | .iface t u, v, h => by
    cases v <;> simp only [SV.alike, Bool.false_eq_true, Bool.and_eq_true, beq_iff_eq] at h
    simp only [SV.den, h.1, alike_den h.2]
  | .nilIface, v, h => by cases v <;> simp_all [SV.alike, SV.den]
  | .agg a, v, h => by
    cases v <;> simp only [SV.alike, Bool.false_eq_true] at h
    simp only [SV.den, alikes_den h]
  | .tup a, v, h => by
    cases v <;> simp only [SV.alike, Bool.false_eq_true] at h
    simp only [SV.den, alikes_den h]
  | .elem x e s, v, h => by
    cases v with
    | elem y f t => cases e <;> cases f <;> simp_all [SV.alike, SV.den, IE.den, Out.re]
    | _ => cases e <;> simp [SV.alike] at h
  | .mptr .., v, h => by simp [SV.alike] at h
theorem alikes_den {ρ : Env Pl} {π : Nat → Nat} : ∀ {u v : List SV}, SV.alikes π u v = true → SV.dens (ρ.re π) u = SV.dens ρ v
  | [], v, h => by cases v <;> simp_all [SV.alikes, SV.dens]
  | a :: l, v, h => by
    cases v <;> simp only [SV.alikes, Bool.false_eq_true, Bool.and_eq_true] at h
    simp only [SV.dens, alike_den h.1, alikes_den h.2]
end
theorem shift_low {t x : Nat} : ∀ {m : List (Nat × Nat × Nat)}, lowId t m = true → x < t → shift m x = x
  | [], _, _ => rfl
  | (s, s', n) :: l, h, hx => by
    simp only [lowId, Bool.and_eq_true, decide_eq_true_eq] at h
    unfold shift
    rw [if_neg (by simp only [Bool.and_eq_true, decide_eq_true_eq]; omega)]
    exact shift_low h.2 hx
theorem re_ext {ρ ρ2 : Env Pl} {t : Nat} {m : List (Nat × Nat × Nat)} (h : lowId t m = true) (he : Ext t ρ ρ2) : Ext t ρ (ρ2.re (shift m)) :=
  ⟨fun x hx => by simp only [Out.re, shift_low h hx]; exact he.i x hx, fun x hx => by simp only [Out.re, shift_low h hx]; exact he.b x hx, fun x hx => by simp only [Out.re, shift_low h hx]; exact he.n x hx,
   fun x hx => by simp only [Out.re, shift_low h hx]; exact he.s x hx, fun x hx => by simp only [Out.re, shift_low h hx]; exact he.p x hx⟩
theorem pair_mem {α : Type} {R : α → α → Prop} (hs : ∀ a b, R a b → R b a) : ∀ {l : List α}, l.Pairwise R → ∀ {a b}, a ∈ l → b ∈ l → a ≠ b → R a b
  | [], _, _, _, h, _, _ => by cases h
  | x :: l, hp, a, b, ha, hb, hne => by
    rw [List.pairwise_cons] at hp
    rcases List.mem_cons.1 ha with ha | ha <;> rcases List.mem_cons.1 hb with hb | hb
    · exact absurd (ha.trans hb.symm) hne
    · rw [ha]; exact hp.1 b hb
    · rw [hb]; exact hs _ _ (hp.1 a ha)
    · exact pair_mem hs hp.2 ha hb hne
theorem alikeT_spec {π : Nat → Nat} {b : List (Nat × SV)} : ∀ {l : List (Nat × SV)}, alikeT π b l = true → ∀ x ∈ l, ∃ u, look b x.1 = some u ∧ SV.alike π x.2 u = true
  | [], _, _, hx => by cases hx
  | (t, v) :: l, h, x, hx => by
    simp only [alikeT, Bool.and_eq_true] at h
    rcases List.mem_cons.1 hx with rfl | hx
    · have h1 := h.1
      split at h1
      · rename_i u hu; exact ⟨u, hu, h1⟩
      · cases h1
    · exact alikeT_spec h.2 x hx
theorem alikeH_spec {π : Nat → Nat} {b : List Blk} : ∀ {l : List Blk}, alikeH π b l = true →
    (∀ x ∈ l, ∃ y, findBlk b (π x.x) = some y ∧ x.T = y.T ∧ SV.alikes π x.cs y.cs = true) ∧ l.Pairwise (fun x y => π x.x ≠ π y.x)
  | [], _ => ⟨fun _ h => (by cases h), List.Pairwise.nil⟩
  | c :: l, h => by
    simp only [alikeH, Bool.and_eq_true, List.all_eq_true, Bool.not_eq_true', beq_eq_false_iff_ne, ne_eq] at h
    obtain ⟨h1, h2⟩ := alikeH_spec h.2
    refine ⟨fun x hx => ?_, List.Pairwise.cons (fun y hy e => h.1.2 y hy e.symm) h2⟩
    rcases List.mem_cons.1 hx with rfl | hx
    · have h3 := h.1.1
      split at h3
      · rename_i y hy
        simp only [Bool.and_eq_true, beq_iff_eq] at h3
        exact ⟨y, hy, h3.1, h3.2⟩
      · cases h3
    · exact h1 x hx
theorem findRes_mem : ∀ {l : List Res} {x : Nat} {r : Res}, findRes l x = some r → r ∈ l ∧ r.key = .slc x
  | [], _, _, h => by simp [findRes] at h
  | c :: l, x, r, h => by
    unfold findRes at h
    split at h
    · rename_i y hy
      split at h
      · rename_i e
        cases h
        exact ⟨List.mem_cons_self .., e ▸ hy⟩
      · exact ⟨List.mem_cons_of_mem _ (findRes_mem h).1, (findRes_mem h).2⟩
    · exact ⟨List.mem_cons_of_mem _ (findRes_mem h).1, (findRes_mem h).2⟩
theorem alikeR_spec {π : Nat → Nat} {da db : DS} : ∀ {l : List Res}, alikeR π da db l = true →
    (∀ r ∈ l, ∃ x s a b, r.key = .slc x ∧ s ∈ db.st.res ∧ s.key = .slc (π x) ∧ π r.p = s.p ∧ s.own = true ∧ r.own = true ∧ look da.en r.p = some a ∧ look db.en s.p = some b ∧ a.T = b.T ∧ a.s = b.s ∧ a.n = b.n ∧ SV.alikes π a.cells b.cells = true) ∧
    l.Pairwise (fun r s => ∀ x y, r.key = .slc x → s.key = .slc y → π x ≠ π y)
  | [], _ => ⟨fun _ h => (by cases h), List.Pairwise.nil⟩
  | c :: l, h => by
    simp only [alikeR, Bool.and_eq_true, List.all_eq_true] at h
    obtain ⟨h1, h2⟩ := alikeR_spec h.2
    refine ⟨fun r hr => ?_, List.Pairwise.cons (fun y hy a b ha hb e => ?_) h2⟩
    · rcases List.mem_cons.1 hr with rfl | hr
      · have h3 := h.1.1
        split at h3
        · rename_i x hx
          split at h3
          · rename_i s hs
            simp only [Bool.and_eq_true, beq_iff_eq] at h3
            obtain ⟨⟨⟨h4, h5⟩, h6⟩, h7⟩ := h3
            split at h7
            · rename_i a b ha hb
              simp only [Bool.and_eq_true, beq_iff_eq] at h7
              exact ⟨x, s, a, b, hx, (findRes_mem hs).1, (findRes_mem hs).2, h4, h5, h6, ha, hb, h7.1.1.1, h7.1.1.2, h7.1.2, h7.2⟩
            · cases h7
          · cases h3
        · cases h3
      · exact h1 r hr
    · have h3 := h.1.2 y hy
      rw [hb, ha] at h3
      simp only [Bool.not_eq_true', beq_eq_false_iff_ne, ne_eq] at h3
      exact h3 e.symm
theorem wfR_spec {d : DS} : ∀ {l : List Res}, wfR d l = true → ∀ r ∈ l, ∃ x e, r.key = .slc x ∧ r.own = true ∧ look d.en r.p = some e ∧ SV.los d.st.ctr e.cells = true ∧ e.n * e.s = e.cells.length
  | [], _, _, hr => by cases hr
  | c :: l, h, r, hr => by
    simp only [wfR, Bool.and_eq_true] at h
    rcases List.mem_cons.1 hr with rfl | hr
    · have h1 := h.1
      split at h1
      · rename_i x hx
        simp only [Bool.and_eq_true] at h1
        obtain ⟨h2, h3⟩ := h1
        split at h3
        · rename_i e he
          simp only [Bool.and_eq_true, beq_iff_eq] at h3
          exact ⟨x, e, hx, h2, he, h3.1, h3.2⟩
        · cases h3
      · cases h1
    · exact wfR_spec h.2 r hr

/-- another order came to the same. -/
theorem alike_step {m : List (Nat × Nat × Nat)} {d da db : DS} (h : alikeD d.st.ctr m da db = true) {w0 w2 : World} {ρ ρ2 : Env Pl} {a : Act} (S : Step w0 ρ d ρ2 db w2) (T : TSat ρ2 db.st a) :
    ∃ ρ', Step w0 ρ d ρ' da w2 ∧ TSat ρ' da.st a := by
  simp only [alikeD, Bool.and_eq_true, beq_iff_eq] at h
  obtain ⟨⟨⟨⟨⟨⟨⟨⟨⟨hlo, hasm⟩, hwf⟩, hid⟩, hctr⟩, hfn⟩, hnt⟩, hT⟩, hH⟩, hR⟩ := h
  have hl := lo_spec hlo
  have ha : da.st.asm = [] := by simpa using hasm
  have D2 := S.sat
  obtain ⟨hb, hbd⟩ := alikeH_spec hH
  obtain ⟨hr, hrd⟩ := alikeR_spec hR
  have hw := wfR_spec hwf
  have hkey : ∀ r ∈ da.st.res, ∃ s ∈ db.st.res, SV.den (ρ2.re (shift m)) r.key = SV.den ρ2 s.key ∧ (ρ2.re (shift m)).p r.p = ρ2.p s.p := fun r hr' => by
    obtain ⟨x, s, a, b, hx, hs, hk, hp, -⟩ := hr r hr'
    refine ⟨s, hs, ?_, ?_⟩
    · rw [hx, hk]; simp [SV.den, Out.re]
    · simp [Out.re, hp]
  have hblk : ∀ b ∈ da.st.heap, ∃ y ∈ db.st.heap, (ρ2.re (shift m)).n b.x = ρ2.n y.x ∧ b.T = y.T ∧ SV.dens (ρ2.re (shift m)) b.cs = SV.dens ρ2 y.cs ∧ y.x = shift m b.x := fun b hb' => by
    obtain ⟨y, hy, ht, hc⟩ := hb b hb'
    obtain ⟨hm, hx⟩ := findBlk_mem hy
    exact ⟨y, hm, by simp [Out.re, hx], ht, alikes_den hc, hx⟩
  refine ⟨ρ2.re (shift m), ⟨re_ext hid S.ext, by rw [hctr]; exact S.ctr, ⟨⟨fun b hb' => ?_, ?_, fun r hr' => ?_, fun r hr' b hb' => ?_, ?_, fun r hr' ho => ?_, fun b hb' => ?_, fun r hr' i hi => ?_, fun r hr' i hi => ?_, D2.H.frame⟩, hl, ha, fun r hr' => ?_⟩⟩, ⟨?_, T.defers, fun t v hv => ?_, by rw [ha]; intro x hx; cases hx⟩⟩
  · obtain ⟨y, hy, h1, h2, h3, -⟩ := hblk b hb'
    rw [h1, h2, h3]
    exact D2.H.blk y hy
  · refine hbd.imp_of_mem fun {p q} hp hq hne => ?_
    obtain ⟨y, hy, h1, -, -, h2⟩ := hblk p hp
    obtain ⟨z, hz, h3, -, -, h4⟩ := hblk q hq
    rw [h1, h3]
    exact pair_mem (R := fun a b : Blk => ρ2.n a.x ≠ ρ2.n b.x) (fun _ _ h e => h e.symm) D2.H.dist hy hz fun e => hne (by rw [← h2, ← h4, e])
  · obtain ⟨s, hs, h1, h2⟩ := hkey r hr'
    rw [h1, h2]
    exact D2.H.res s hs
  · obtain ⟨s, hs, h1, h2⟩ := hkey r hr'
    obtain ⟨y, hy, h3, -⟩ := hblk b hb'
    rw [h1, h2, h3]
    exact D2.H.apart s hs y hy
  · refine hrd.imp_of_mem fun {p q} hp hq hne => ?_
    obtain ⟨x, s, _, _, hx, hs, hk, hps, -⟩ := hr p hp
    obtain ⟨y, s', _, _, hy, hs', hk', hps', -⟩ := hr q hq
    have e1 : SV.den (ρ2.re (shift m)) p.key = SV.den ρ2 s.key := by rw [hx, hk]; simp [SV.den, Out.re]
    have e2 : SV.den (ρ2.re (shift m)) q.key = SV.den ρ2 s'.key := by rw [hy, hk']; simp [SV.den, Out.re]
    rw [e1, e2]
    simp only [Out.re, hps, hps']
    refine pair_mem (R := fun a b : Res => Sep PI (ρ2.p a.p) (SV.den ρ2 a.key) (ρ2.p b.p) (SV.den ρ2 b.key)) (fun _ _ h => h.symm) D2.H.sep hs hs' fun e => hne x y hx hy ?_
    rw [e, hk'] at hk
    exact (SV.slc.inj hk).symm
  · obtain ⟨x, s, a, b, hx, hs, hk, hp, ho', hro, -⟩ := hr r hr'
    rw [hro] at ho
    cases ho
  · obtain ⟨y, hy, h1, -⟩ := hblk b hb'
    rw [h1]
    exact D2.H.mine y hy
  · obtain ⟨s, hs, h1, h2⟩ := hkey r hr'
    rw [h1, h2] at hi
    exact D2.H.mineR s hs i hi
  · obtain ⟨s, hs, h1, h2⟩ := hkey r hr'
    rw [h1, h2] at hi
    exact D2.H.shar s hs i hi
  · obtain ⟨x, s, a, b, hx, hs, hk, hp, ho', hro, hae, hbe, h1, h2, h3, h4⟩ := hr r hr'
    obtain ⟨x', e, hx', -, he, hlo', hn⟩ := hw r hr'
    rw [hae] at he
    cases he
    obtain ⟨y, e', hy, -, he', hp', -⟩ := D2.en s hs
    rw [hbe] at he'
    cases he'
    refine ⟨x, a, hx, hro, hae, ?_, hlo', hn⟩
    simp only [Out.re, hp, hp', h1, h2]
    rw [← alikes_den h4]
    rfl
  · rw [hnt]; exact T.size
  · have hc := look_compact da.st.tmps [] t
    simp only [List.not_mem_nil, if_false] at hc
    obtain ⟨u, hu, hal⟩ := alikeT_spec hT (t, v) (look_mem (by rw [hc]; exact hv))
    rw [alike_den hal]
    exact T.tmps t u hu

/-- garbage is let go. -/
theorem DSat.sub {w0 w : World} {ρ : Env Pl} {d : DS} (D : DSat w0 ρ d w) {h : List Blk} {r : List Res} {en : List (Nat × EnD)} (hh : h.Sublist d.st.heap) (hr : r.Sublist d.st.res) (he : ∀ e ∈ r, look en e.p = look d.en e.p) :
    DSat w0 ρ { st := { d.st with heap := h, res := r }, en := en } w :=
  ⟨⟨fun b hb => D.H.blk b (hh.subset hb), D.H.dist.sublist hh, fun e he => D.H.res e (hr.subset he), fun e he b hb => D.H.apart e (hr.subset he) b (hh.subset hb), D.H.sep.sublist hr, fun e he => D.H.per e (hr.subset he),
    fun b hb => D.H.mine b (hh.subset hb), fun e he => D.H.mineR e (hr.subset he), fun e he => D.H.shar e (hr.subset he), D.H.frame⟩,
   ⟨D.lo.tmps, fun b hb => D.lo.heap b (hh.subset hb), fun e he => D.lo.res e (hr.subset he), D.lo.asm⟩, D.asm, fun e he' => by
    obtain ⟨x, a, h1, h2, h3, h4⟩ := D.en e (hr.subset he')
    exact ⟨x, a, h1, h2, (he e he').trans h3, h4⟩⟩
theorem look_filter {α : Type} (f : Nat → Bool) {x : Nat} (hx : f x = true) : ∀ l : List (Nat × α), look (l.filter fun y => f y.1) x = look l x
  | [] => rfl
  | (k, v) :: l => by
    by_cases e : k = x
    · subst e
      simp [List.filter, hx, look]
    · rw [look_ne e]
      simp only [List.filter]
      split
      · rw [look_ne e, look_filter f hx l]
      · exact look_filter f hx l
theorem gcD_sound {w0 w : World} {ρ : Env Pl} {d : DS} (D : DSat w0 ρ d w) (t : Nat) (v : SV) : DSat w0 ρ (gcD t v d) w ∧ (gcD t v d).st.ctr = d.st.ctr ∧ Same d (gcD t v d) := by
  unfold gcD
  split
  · exact ⟨D, rfl, Same.refl _⟩
  · refine ⟨?_, rfl, ⟨rfl, rfl, rfl⟩⟩
    exact D.sub List.filter_sublist List.filter_sublist fun e he => look_filter (fun k => d.st.res.any fun r => r.p == k) (by simpa using ⟨e, (List.mem_filter.1 he).1, rfl⟩) d.en
end Go.Sx

namespace Go.Sx
open Go

theorem lookR_eq : ∀ (l : List (Nat × SV)) (t : Nat), lookR l t = look l t
  | [], _ => rfl
  | (k, v) :: l, t => by
    show (match Nat.beq k t with | true => some v | false => lookR l t) = look ((k, v) :: l) t
    rw [lookR_eq l t]
    by_cases e : k = t
    · subst e
      rw [look_hd, Nat.beq_refl]
    · rw [look_ne e]
      have : Nat.beq k t = false := by
        cases h : Nat.beq k t
        · rfl
        · exact absurd (Nat.eq_of_beq_eq_true h) e
      rw [this]
theorem blkR_eq : ∀ (l : List Blk) (x : Nat), blkR l x = (findBlk l x).map (·.cs)
  | [], _ => rfl
  | b :: l, x => by
    show (match Nat.beq b.x x with | true => some b.cs | false => blkR l x) = _
    rw [blkR_eq l x]
    conv => rhs; unfold findBlk
    by_cases e : b.x = x
    · have : Nat.beq b.x x = true := by rw [e]; exact Nat.beq_refl x
      rw [this, if_pos e]
      rfl
    · have : Nat.beq b.x x = false := by
        cases h : Nat.beq b.x x
        · rfl
        · exact absurd (Nat.eq_of_beq_eq_true h) e
      rw [this, if_neg e]
theorem getR_eq : ∀ (l : List SV) (i : Nat), getR l i = l[i]?
  | [], _ => rfl
  | v :: l, 0 => rfl
  | v :: l, i + 1 => by
    show getR l i = _
    rw [getR_eq l i]
    rfl
theorem forceI_eq (n : Int) : forceI n = .int .i64 (.lit n) := by
  cases n <;> simp [forceI, forceN_eq]

/-- what a fast step yields. -/
structure Yld (P : Program) (o : Oper) (v : SV) (ρ : Env Pl) (d : DS) (a : Act) (w : World) : Prop where
  run : (execOp a.eval o).run P w = .ok (.value (SV.den ρ v)) w
  lo : SV.lo d.st.ctr v = true
  any : isTake o = true → ∀ w', (execOp a.eval o).run P w' = .ok (.value (SV.den ρ v)) w'
theorem Yld.of {P : Program} {o : Oper} {v u : SV} {c : List BE} {w0 w : World} {ρ : Env Pl} {d : DS} {a : Act} (D : DSat w0 ρ d w) (T : TSat ρ d.st a) (ho : opx P d.st o = .val c u) (hc : ∀ x ∈ c, x.den ρ = true) (hd : SV.den ρ v = SV.den ρ u) (hl : SV.lo d.st.ctr v = true) : Yld P o v ρ d a w :=
  ⟨by rw [hd]; exact opx_val T D.H ho hc, hl, fun ht w' => by rw [hd]; exact take_run T ht ho hc w'⟩
theorem ev_tmp {d : DS} {t : Nat} {v : SV} (h : look d.st.tmps t = some v) : d.st.ev (.tmp t) = some (v.norm d.st.asm) := by
  simp only [St.ev, h]
theorem Yld.op {P : Program} {op : BinOp} {T' : Nat} {x y : Operand} {ty : TypeId} {dst : Option Tmp} {type : TypeId} {pos : String} {after : Array Edge} {guard : Option (Nat × Bool)} {h : Int → Int → Option SV} (hop : opH op = some h) {m n : Int} {v : SV} (hv : h m n = some v)
    {w0 w : World} {ρ : Env Pl} {d : DS} {a : Act} (D : DSat w0 ρ d w) (T : TSat ρ d.st a) (hx : d.st.ev x = some (.int .i64 (.lit m))) (hy : d.st.ev y = some (.int .i64 (.lit n))) : Yld P ⟨dst, .binOp op T' x y ty, type, pos, after, guard⟩ v ρ d a w := by
  cases op <;> simp only [opH, Option.some.injEq, reduceCtorEq] at hop <;> subst hop <;> simp only [Option.some.injEq] at hv <;> subst hv
  all_goals
    refine Yld.of (c := []) D T (by simp only [opx, hx, hy, bin2, intOp, cmpOp, optN, noNeed, if_true]; rfl) (fun _ h => by cases h) ?_ ?_
  all_goals first
    | rfl
    | (rw [forceI_eq]; rfl)

theorem eqD_sound {P : Program} {ρ : Env Pl} (w : World) : ∀ (n : Nat) {t : Nat} {u v : SV} {b : Bool}, eqD P n t u v = some b → ∀ d, n ≤ d → (Op.equalIn d t (SV.den ρ u) (SV.den ρ v)).run P w = .ok b w
  | 0, _, _, _, _, h, _, _ => by simp [eqD] at h
  | n + 1, t, u, v, b, h, d, hd => by
    obtain ⟨d, rfl⟩ : ∃ e, d = e + 1 := ⟨d - 1, by omega⟩
    simp only [eqD] at h
    split at h
    · rename_i hu
      split at h
      · cases h
        simp only [SV.den, BE.den]
        simp [Op.equalIn, run_underlying hu]
      · cases h
    · rename_i k hu
      split at h
      · split at h
        · rename_i hk
          cases h
          subst hk
          simp only [SV.den, IE.den]
          simp [Op.equalIn, run_underlying hu]
        · cases h
      · cases h
    · rename_i fs hu
      split at h
      · rename_i xs ys
        split at h
        · cases h
        rename_i hst
        have hst : P.stoodInHeld t = false := by simpa using hst
        simp only [SV.den, Op.equalIn, Sem.run_bind, run_underlying hu, Result.andThen_ok, run_program, hst, Bool.false_eq_true, if_false]
        rw [← Array.forIn_toList]
        generalize fs.toList = l at h
        clear hu
        induction l with
        | nil => cases h; simp
        | cons f l ih =>
          dsimp only at h
          split at h
          · cases h
          rename_i hn
          split at h
          · rename_i a c ha hc
            simp only [List.forIn_cons, Sem.run_bind, Sem.run_ite]
            rw [if_pos hn]
            simp only [part_den ρ ha, part_den ρ hc, Result.andThen_ok]
            split at h
            · rename_i he
              rw [eqD_sound w n he d (by omega)]
              simp only [Result.andThen_ok, Bool.not_true, Bool.false_eq_true, if_false, Sem.run_pure]
              exact ih h
            · rename_i he
              cases h
              rw [eqD_sound w n he d (by omega)]
              simp
            · cases h
          · cases h
      · cases h
    · rename_i len e hu
      split at h
      · rename_i xs ys
        split at h
        · rename_i s hs
          simp only [SV.den, Op.equalIn, Sem.run_bind, run_underlying hu, Result.andThen_ok, run_sizeOf hs]
          have hr : ([0:len] : Std.Legacy.Range) = [0:len] := rfl
          simp only [Std.Legacy.Range.forIn_eq_forIn_range', Std.Legacy.Range.size, Nat.sub_zero, Nat.add_sub_cancel, Nat.div_one, ← List.range_eq_range']
          generalize List.range len = l at h
          clear hu hr
          induction l with
          | nil => cases h; simp
          | cons i l ih =>
            dsimp only at h
            split at h
            · rename_i a c ha hc
              simp only [List.forIn_cons, Sem.run_bind, part_den ρ ha, part_den ρ hc, Result.andThen_ok]
              split at h
              · rename_i he
                rw [eqD_sound w n he d (by omega)]
                simp only [Result.andThen_ok, Bool.not_true, Bool.false_eq_true, if_false, Sem.run_pure]
                exact ih h
              · rename_i he
                cases h
                rw [eqD_sound w n he d (by omega)]
                simp
              · cases h
            · cases h
        · cases h
      · cases h
    · cases h
theorem eqF_sound {P : Program} {neg : Bool} {T' x y : Nat} {ty : TypeId} {dst : Option Tmp} {type : TypeId} {pos : String} {after : Array Edge} {guard : Option (Nat × Bool)} {d : DS} {v : SV} (hv : (eqF P neg T' x y).f d = some v) (hg : P.eqGuardType P.depth T' = false)
    {w : World} {ρ : Env Pl} {a : Act} (T : TSat ρ d.st a) : Yld P ⟨dst, .binOp (if neg then .neq else .eql) T' (.tmp x) (.tmp y) ty, type, pos, after, guard⟩ v ρ d a w := by
  simp only [eqF, lookR_eq] at hv
  split at hv
  · rename_i xs hx
    split at hv
    · rename_i ys hy
      have e1 := ev_den T (ev_tmp hx)
      have e2 := ev_den T (ev_tmp hy)
      simp only [SV.norm, SV.den] at e1 e2
      have run : ∀ w', (execOp a.eval ⟨dst, .binOp (if neg then .neq else .eql) T' (.tmp x) (.tmp y) ty, type, pos, after, guard⟩).run P w' = .ok (.value (SV.den ρ v)) w' := fun w' => by
        split at hv
        · rename_i he
          cases hv
          have := eqD_sound (P := P) (ρ := ρ) w' 8 he 10000 (by omega)
          simp only [SV.den] at this
          cases neg
          · simp [execOp, e1, e2, run_eqGuard_agg _ _ _ _ _ _ _ hg, run_eql_struct, this, SV.den, BE.den]
          · simp [execOp, e1, e2, run_eqGuard_agg _ _ _ _ _ _ _ hg, run_neq_struct, this, SV.den, BE.den]
        · rename_i he
          cases hv
          have := eqD_sound (P := P) (ρ := ρ) w' 8 he 10000 (by omega)
          simp only [SV.den] at this
          cases neg
          · simp [execOp, e1, e2, run_eqGuard_agg _ _ _ _ _ _ _ hg, run_eql_struct, this, SV.den, BE.den]
          · simp [execOp, e1, e2, run_eqGuard_agg _ _ _ _ _ _ _ hg, run_neq_struct, this, SV.den, BE.den]
        · cases hv
      refine ⟨run w, ?_, fun _ => run⟩
      split at hv <;> cases hv <;> rfl
    · cases hv
  · cases hv

theorem buildF_sound {P : Program} {t : Nat} {parts : Array (Nat × Operand)} {dst : Option Tmp} {type : TypeId} {pos : String} {after : Array Edge} {guard : Option (Nat × Bool)} {f : VF} (hf : buildF P t parts = some f) {d : DS} {v : SV} (hv : f.f d = some v)
    {w : World} {ρ : Env Pl} {a : Act} (T : TSat ρ d.st a) : Yld P ⟨dst, .build t parts, type, pos, after, guard⟩ v ρ d a w := by
  unfold buildF at hf
  split at hf
  case h_2 => cases hf
  rename_i len e hu
  split at hf
  case h_2 => cases hf
  rename_i s z hs hz
  cases hf
  simp only at hv
  split at hv
  case h_2 => cases hv
  rename_i ps hps
  split at hv
  case h_2 => cases hv
  rename_i cs hcs
  split at hv
  case h_2 => cases hv
  rename_i hlo
  cases hv
  have run : ∀ w', (execOp a.eval ⟨dst, .build t parts, type, pos, after, guard⟩).run P w' = .ok (.value (SV.den ρ (.agg cs))) w' := fun w' => by
    obtain ⟨i, hi, hiz⟩ := zeroX_den ρ hz
    obtain ⟨ie, hie, rfl⟩ := Option.map_eq_some_iff.1 hs
    have hbuilt : P.built t (parts.map fun (i, x) => (i, a.eval x)).toList = some (SV.dens ρ cs).toArray := by
      unfold Program.built
      simp only [hi, hu, hiz, hie, cells_den]
      have e := evParts_den T hps
      have e' : (parts.map fun (i, x) => (i, a.eval x)).toList = ps.map fun (i, v) => (i, SV.den ρ v) := by
        rw [← e]; simp
      rw [e']
      refine fill_den ρ _ _ (fun i x hx => ?_) ps _ _ hcs
      rw [List.getElem?_map] at hx
      obtain ⟨j, hj, rfl⟩ := Option.map_eq_some_iff.1 hx
      have : j = i := by
        have := List.getElem?_eq_some_iff.1 hj
        obtain ⟨h1, h2⟩ := this
        simpa using h2.symm
      rw [this]
    have := run_build w' t (parts.map fun (i, x) => (i, a.eval x)) _ hbuilt
    simp [execOp, this, SV.den]
  exact ⟨run w, hlo, fun _ => run⟩

theorem fastV_sound {P : Program} {o : Oper} {f : VF} (hf : fastV P o = some f) {d : DS} {v : SV} (hv : f.f d = some v) {w0 w : World} {ρ : Env Pl} {a : Act} (D : DSat w0 ρ d w) (T : TSat ρ d.st a) : Yld P o v ρ d a w := by
  have tmp : ∀ {t : Nat} {v : SV}, lookR d.st.tmps t = some v → look d.st.tmps t = some v ∧ SV.lo d.st.ctr v = true := fun h => by
    rw [lookR_eq] at h
    exact ⟨h, D.lo.tmps _ (look_mem h)⟩
  have const : ∀ {c : Value} {f : VF}, constV c = some f → f.f d = some v → d.st.ev (.const c) = some v ∧ SV.lo d.st.ctr v = true := fun h hv => by
    unfold constV at h
    split at h
    · rename_i u hu
      cases h
      cases hv
      exact ⟨hu, ofV_lo _ _ _ _ hu⟩
    · cases h
  obtain ⟨dst, op, type, pos, after, guard⟩ := o
  unfold fastV at hf
  split at hf
  · rename_i t ho
    cases ho
    cases hf
    obtain ⟨h1, h2⟩ := tmp hv
    exact Yld.of (c := []) D T (by simp only [opx, ev_tmp h1, optE]) (fun _ h => by cases h) (norm_den T.asm v).symm h2
  · rename_i t ho
    cases ho
    cases hf
    obtain ⟨h1, h2⟩ := tmp hv
    exact Yld.of (c := []) D T (by simp only [opx, ev_tmp h1, optE]) (fun _ h => by cases h) (norm_den T.asm v).symm h2
  · rename_i c ho
    cases ho
    obtain ⟨h1, h2⟩ := const hf hv
    exact Yld.of (c := []) D T (by simp only [opx, h1, optE]) (fun _ h => by cases h) rfl h2
  · rename_i c ho
    cases ho
    obtain ⟨h1, h2⟩ := const hf hv
    exact Yld.of (c := []) D T (by simp only [opx, h1, optE]) (fun _ h => by cases h) rfl h2
  · rename_i t ho
    cases ho
    cases hf
    simp only at hv
    split at hv
    · rename_i x off hl
      cases hv
      obtain ⟨h1, h2⟩ := tmp hl
      exact Yld.of (c := []) D T (by simp only [opx, ev_tmp h1, SV.norm]) (fun _ h => by cases h) rfl h2
    · cases hv
  · rename_i s t fi ho
    cases ho
    split at hf
    case h_2 => cases hf
    rename_i fs hfs
    split at hf
    case h_2 => cases hf
    rename_i fl hfl
    split at hf
    case h_2 => cases hf
    rename_i n hn
    split at hf
    case h_2 => cases hf
    rename_i hn0
    have hn0 : ¬ n = 0 := by simpa using hn0
    split at hf
    · rename_i hoff
      cases hf
      simp only at hv
      split at hv
      · rename_i b off hl
        cases hv
        obtain ⟨h1, h2⟩ := tmp hl
        exact Yld.of (c := []) D T (by simp only [opx, hfs, ev_tmp h1, SV.norm, hfl, hn, if_neg hn0, hoff, Nat.add_zero]) (fun _ h => by cases h) rfl h2
      · cases hv
    · cases hf
      simp only at hv
      split at hv
      · rename_i b off hl
        rw [forceN_eq] at hv
        cases hv
        obtain ⟨h1, h2⟩ := tmp hl
        exact Yld.of (c := []) D T (by simp only [opx, hfs, ev_tmp h1, SV.norm, hfl, hn, if_neg hn0]) (fun _ h => by cases h) rfl h2
      · cases hv
  · rename_i T' t ho
    cases ho
    split at hf
    case h_2 => cases hf
    rename_i m hagg hm
    cases hf
    simp only at hv
    split at hv
    · rename_i x off hl
      obtain ⟨h1, h2⟩ := tmp hl
      split at hv
      · rename_i cs hcs
        rw [blkR_eq] at hcs
        rw [getR_eq] at hv
        obtain ⟨b, hb, rfl⟩ := Option.map_eq_some_iff.1 hcs
        refine Yld.of (c := []) D T (u := v) ?_ (fun _ h => by cases h) rfl ?_
        · simp only [opx, ev_tmp h1, SV.norm, loadX, hb, hagg, hm, hv, optE]
        · have := (D.lo.heap b (findBlk_mem hb).1).2
          rw [los_mem] at this
          exact this v (List.mem_of_getElem? hv)
      · cases hv
    · rename_i x i s hl
      obtain ⟨h1, h2⟩ := tmp hl
      split at hv
      · rename_i p e hr
        split at hv
        · rename_i hc
          simp only [Bool.and_eq_true, Nat.beq_eq] at hc
          obtain ⟨⟨⟨c1, c2⟩, c3⟩, c4⟩ := hc
          have c4 := Nat.le_of_ble_eq_true c4
          rw [getR_eq] at hv
          have hld : ldD P T' 1 d x i = some v := by
            have : decide (i < e.n) = true := decide_eq_true c4
            simp only [ldD, hr, c1, hagg, hm, c3, this, decide_true, Bool.and_self, if_true, beq_self_eq_true]
            exact hv
          obtain ⟨r1, r2⟩ := ldD_sound hld D
          subst c2
          refine ⟨?_, r2, fun h => by simp [isTake] at h⟩
          have he : a.eval (.tmp t) = SV.den ρ (.elem x (.lit (.ofNat i)) 1) := by
            rw [ev_den T (ev_tmp h1)]
            rfl
          simp only [execOp, he, Sem.run_bind, r1, Result.andThen_ok]
          rfl
        · cases hv
      · cases hv
    · cases hv
  · rename_i op T' x y ty ho
    cases ho
    split at hf
    · rename_i hc
      simp only [Bool.and_eq_true, Bool.not_eq_true'] at hc
      split at hf
      · cases hf; exact eqF_sound (neg := false) hv hc.2 T
      · cases hf; exact eqF_sound (neg := true) hv hc.2 T
      · cases hf
    split at hf
    case h_2 => cases hf
    rename_i h hop
    cases hf
    simp only [int2] at hv
    split at hv
    · rename_i m hm
      split at hv
      · rename_i n hn
        exact Yld.op hop hv D T (ev_tmp (tmp hm).1) (ev_tmp (tmp hn).1)
      · cases hv
    · cases hv
  · rename_i op T' x n ty ho
    cases ho
    split at hf
    case h_2 => cases hf
    rename_i h hop
    cases hf
    simp only [intc] at hv
    split at hv
    · rename_i m hm
      exact Yld.op hop hv D T (ev_tmp (tmp hm).1) rfl
    · cases hv
  · rename_i t parts ho
    cases ho
    exact buildF_sound hf hv T
  · rename_i t x y ho
    cases ho
    split at hf
    case h_2 => cases hf
    rename_i el hu
    split at hf
    case h_2 => cases hf
    rename_i n hn
    cases hf
    simp only at hv
    split at hv
    · rename_i s hs
      split at hv
      · rename_i k i hi
        split at hv
        · rename_i m hm
          split at hv
          · rename_i hle
            cases hv
            obtain ⟨l1, l2⟩ := D.len hm
            have hlt : i < m := by
              cases hd : decide (m ≤ i)
              · have := of_decide_eq_false hd; omega
              · have h := of_decide_eq_true hd
                rw [show Nat.ble m i = true from Nat.ble_eq ▸ h] at hle
                cases hle
            obtain ⟨s1, s2⟩ := tmp hs
            refine Yld.of D T (by simp only [opx, ev_tmp s1, ev_tmp (tmp hi).1, SV.norm, hu, hn]; rfl) (fun b hb => ?_) rfl ?_
            · simp only [List.mem_cons, List.not_mem_nil, or_false] at hb
              rcases hb with rfl | rfl | rfl
              · simp [BE.den, IE.den]
              · simp only [BE.den, IE.den, l1, decide_eq_true_eq]
                exact Int.ofNat_lt.2 hlt
              · simp only [BE.den]
                exact l2 (by omega)
            · simp only [SV.lo] at s2 ⊢
              rw [s2]
              rfl
          · cases hv
        · cases hv
      · cases hv
    · cases hv
  · rename_i c ho
    cases ho
    split at hf
    case h_2 => cases hf
    rename_i x t hcal hargs ht
    split at hf
    case h_2 => cases hf
    rename_i el hu
    cases hf
    simp only at hv
    split at hv
    · rename_i s hs
      split at hv
      · rename_i n hn
        cases hv
        obtain ⟨l1, l2⟩ := D.len hn
        refine Yld.of (c := []) D T (u := .int .i64 (.len s)) ?_ (fun _ h => by cases h) (by simp [SV.den, IE.den, l1]) rfl
        simp only [opx, callX, hargs, St.evs, ev_tmp (tmp hs).1, SV.norm, hcal, lenX, ht, hu, optE]
      · cases hv
    · cases hv
  · cases hf
theorem fastN_sound {P : Program} {o : Oper} {g : Option (Nat × Bool)} {f : VF} (hf : fastN P o g = some f) : g = none ∧ fastV P o = some f := by
  cases g with
  | none => exact ⟨rfl, hf⟩
  | some _ => cases hf
end Go.Sx

namespace Go.Sx
open Go

def HJ (P : Program) (ρ : Env Pl) (hold : List HdX) (w : World) : Prop := ∀ h ∈ hold, (Instr.loadAt h.T (SV.den ρ h.a)).run P w = .ok (SV.den ρ h.v) w
def HdLo (t : Nat) (hold : List HdX) : Prop := ∀ h ∈ hold, SV.lo t h.a = true ∧ SV.lo t h.v = true
theorem loadD_sound {P : Program} {d : DS} {T : Nat} {a v : SV} (h : loadD P d T a = some v) {w0 w : World} {ρ : Env Pl} (D : DSat w0 ρ d w) : (Instr.loadAt T (SV.den ρ a)).run P w = .ok (SV.den ρ v) w := by
  unfold loadD at h
  split at h
  · exact (ldD_sound h D).1
  · exact loadX_run (st := d.st) D.H h
  · cases h
theorem holdD_sound {P : Program} {d : DS} {w0 w : World} {ρ : Env Pl} (D : DSat w0 ρ d w) : ∀ {hold : List HdX}, holdD P d hold = true → HJ P ρ hold w
  | [], _ => fun _ h => by cases h
  | c :: l, h => fun x hx => by
    simp only [holdD, Bool.and_eq_true] at h
    rcases List.mem_cons.1 hx with rfl | hx
    · have h1 := h.1
      split at h1
      · rename_i v hv
        rw [loadD_sound hv D, beq_eq _ _ h1]
      · cases h1
    · exact holdD_sound D h.2 x hx
theorem HJ.ext {P : Program} {ρ ρ' : Env Pl} {t : Nat} {hold : List HdX} {w : World} (h : HJ P ρ' hold w) (hl : HdLo t hold) (he : Ext t ρ ρ') : HJ P ρ hold w := fun x hx => by
  have := h x hx
  rw [SV.ext he _ (hl x hx).1, SV.ext he _ (hl x hx).2] at this
  exact this
theorem inHold_spec {T : Nat} {a v : SV} : ∀ {hold : List HdX}, inHold T a v hold = true → ∃ h ∈ hold, h.T = T ∧ h.a = a ∧ h.v = v
  | [], h => by simp [inHold] at h
  | c :: l, h => by
    simp only [inHold, Bool.or_eq_true, Bool.and_eq_true, beq_iff_eq] at h
    rcases h with ⟨⟨h1, h2⟩, h3⟩ | h
    · exact ⟨c, List.mem_cons_self .., h1, (beq_eq _ _ h2).symm, (beq_eq _ _ h3).symm⟩
    · obtain ⟨x, hx, h⟩ := inHold_spec h
      exact ⟨x, List.mem_cons_of_mem _ hx, h⟩

theorem wantD_den {ρ : Env Pl} {d : DS} {a : Act} (T : TSat ρ d.st a) {ops : Array Oper} {o : Oper} {g : Option (Nat × Bool)} {b : Bool} (hg : guardD ops o = some g) (h : wantD d g = some b) : Region.wanted o (yielded ops a.tmps) = b := by
  unfold guardD at hg
  unfold Region.wanted
  split at hg
  · rename_i e
    cases hg
    rw [e]
    simpa [wantD] using h
  · rename_i j want e
    rw [e]
    split at hg
    · rename_i t ht
      cases hg
      simp only [wantD] at h
      split at h
      · rename_i b' hb
        cases h
        simp only [yielded, ht, Option.bind_some, T.tmps _ _ hb, SV.den, BE.den]
        cases b' <;> cases want <;> rfl
      · cases h
    · cases hg
/-- a value that is known. -/
def ValD (P : Program) (d : DS) (o : Oper) (v : SV) : Prop := ∃ c u, opx P d.st o = .val c u ∧ needsD d c = true ∧ u.fix d = some v ∧ SV.lo d.st.ctr v = true
theorem valD_spec {P : Program} {d : DS} {o : Oper} {v : SV} (h : valS P d o = some v) : ValD P d o v := by
  unfold valS at h
  split at h
  · rename_i c u hu
    split at h
    · rename_i hc
      split at h
      · rename_i v' hv
        split at h
        · rename_i hl
          cases h
          exact ⟨c, u, hu, hc, hv, hl⟩
        · cases h
      · cases h
    · cases h
  · cases h

theorem valD_yld {P : Program} {d : DS} {o : Oper} {v : SV} (h : valD P d o = some v) {w0 w : World} {ρ : Env Pl} {a : Act} (D : DSat w0 ρ d w) (T : TSat ρ d.st a) : Yld P o v ρ d a w := by
  unfold valD at h
  split at h
  · rename_i u hu
    cases h
    split at hu
    · rename_i f hf
      exact fastV_sound hf hu D T
    · cases hu
  · obtain ⟨c, u, ho, hc, hf, hl⟩ := valD_spec h
    exact Yld.of D T ho (needsD_den D hc) (SV.fix_den D hf) hl

structure SndD (P : Program) (hk : List HK) (w0 : World) (n : Nat) : Prop where
  dc : ∀ (live : List Nat) (c : Code) (d d' : DS) (e : Ex) (ρ : Env Pl) (a : Act) (w : World) (Q : Exit → Act → World → Prop), Sx.dc P hk live n (DC.of c) d = some (e, d') → DSat w0 ρ d w → TSat ρ d.st a → (∀ ρ' a' w', Step w0 ρ d ρ' d' w' → TSat ρ' d'.st a' → Q e.up a' w') → c.wp P Q a w
  dreg : ∀ (live : List Nat) (id : Nat) (ops : Array Oper) (loads : List Nat) (hold : List HdX) (d d' : DS) (e : Ex) (ρ : Env Pl) (a : Act) (w : World) (Q : Exit → Act → World → Prop), Sx.dreg P hk n live (planA ops loads ops.size (Array.replicate ops.size false)) hold d = some (e, d') → Region.noSelect ops = true → DSat w0 ρ d w → TSat ρ d.st a →
    (∀ ρ' a' w', Step w0 ρ d ρ' d' w' → TSat ρ' d'.st a' → Q e.up a' w') → (Code.region id ops true).wp P Q a w
  lp : ∀ (live : List Nat) (c : Code) (d d' : DS) (e : Ex) (ρ : Env Pl) (a : Act) (w : World) (Q : Exit → Act → World → Prop), Sx.dc P hk live n (.loop (DC.of c)) d = some (e, d') → DSat w0 ρ d w → TSat ρ d.st a → (∀ ρ' a' w', Step w0 ρ d ρ' d' w' → TSat ρ' d'.st a' → Q e.up a' w') → Code.rounds P c Q n a w
  line : ∀ (ops : Array Oper) (l : List Nat) (d d' : DS) (lg : Log) (ρ : Env Pl) (a : Act) (w : World) (Q : Exit → Act → World → Prop), Sx.drp P hk n (planS ops l) [] d = some (d', lg) → DSat w0 ρ d w → TSat ρ d.st a → (∀ ρ' a' w', Step w0 ρ d ρ' d' w' → TSat ρ' d'.st a' → Q .normal a' w') → wpOps P ops Q l a w
  drp : ∀ (ops : Array Oper) (loads : List Nat) (m : Nat) (listed : Array Bool) (hold : List HdX) (d d' : DS) (lg : Log) (ρ ρ0 : Env Pl) (t : Nat) (a : Act) (w : World) (Q : Exit → Act → World → Prop), Sx.drp P hk n (planA ops loads m listed) hold d = some (d', lg) → Region.noSelect ops = true → HdLo t hold → Ext t ρ0 ρ → t ≤ d.st.ctr → HJ P ρ0 hold w → (∀ c a w, ¬ Q (.panic c) a w) →
    DSat w0 ρ d w → TSat ρ d.st a → (∀ ρ' a' w', Step w0 ρ d ρ' d' w' → TSat ρ' d'.st a' → Q .normal a' w') → wpAnyH P .any ops Q (HJ P ρ0 hold) m listed a w
  drs : ∀ (ops : Array Oper) (loads : List Nat) (m : Nat) (listed : Array Bool) (rs : List Nat) (hold : List HdX) (d dA : DS) (lA : Log) (ρ ρ0 : Env Pl) (t : Nat) (a : Act) (w : World) (Q : Exit → Act → World → Prop), Sx.drs P hk n (planL ops listed (planA ops loads m) rs) hold d d.st.ctr dA lA = true → Region.noSelect ops = true → HdLo t hold → Ext t ρ0 ρ → t ≤ d.st.ctr → HJ P ρ0 hold w → (∀ c a w, ¬ Q (.panic c) a w) →
    DSat w0 ρ d w → TSat ρ d.st a → (∀ ρ' a' w', Step w0 ρ d ρ' dA w' → TSat ρ' dA.st a' → Q .normal a' w') → ∀ i ∈ rs, wpOp P ops Q i (fun a' w' => HJ P ρ0 hold w' ∧ wpAnyH P .any ops Q (HJ P ρ0 hold) m (listed.setIfInBounds i true) a' w') a w
  drqL : ∀ (ops : Array Oper) (i : Nat) (o : Oper) (g : Option (Nat × Bool)) (l : List Nat) (d d' : DS) (lg : Log) (ρ : Env Pl) (a : Act) (w : World) (Q : Exit → Act → World → Prop), ops[i]? = some o → guardD ops o = some g → Sx.drq P hk n i o g (planS ops l) [] d = some (d', lg) → DSat w0 ρ d w → TSat ρ d.st a →
    (∀ ρ' a' w', Step w0 ρ d ρ' d' w' → TSat ρ' d'.st a' → Q .normal a' w') → wpOps P ops Q (i :: l) a w
  drqA : ∀ (ops : Array Oper) (loads : List Nat) (m : Nat) (listed : Array Bool) (i : Nat) (o : Oper) (g : Option (Nat × Bool)) (hold : List HdX) (d d' : DS) (lg : Log) (ρ ρ0 : Env Pl) (t : Nat) (a : Act) (w : World) (Q : Exit → Act → World → Prop), ops[i]? = some o → guardD ops o = some g → Sx.drq P hk n i o g (planA ops loads m (listed.setIfInBounds i true)) hold d = some (d', lg) →
    Region.noSelect ops = true → HdLo t hold → Ext t ρ0 ρ → t ≤ d.st.ctr → (∀ c a w, ¬ Q (.panic c) a w) → DSat w0 ρ d w → TSat ρ d.st a → (∀ ρ' a' w', Step w0 ρ d ρ' d' w' → TSat ρ' d'.st a' → Q .normal a' w') →
    wpOp P ops Q i (fun a' w' => HJ P ρ0 hold w' ∧ wpAnyH P .any ops Q (HJ P ρ0 hold) m (listed.setIfInBounds i true) a' w') a w
  dgo : ∀ (ops : Array Oper) (i : Nat) (o : Oper) (g : Option (Nat × Bool)) (d d' : DS) (ρ : Env Pl) (a : Act) (w : World) (Q : Exit → Act → World → Prop) (K : Act → World → Prop), ops[i]? = some o → guardD ops o = some g → Sx.dgo P hk n o g d = some d' → DSat w0 ρ d w → TSat ρ d.st a → (∀ ρ' a' w', Step w0 ρ d ρ' d' w' → TSat ρ' d'.st a' → K a' w') → wpOp P ops Q i K a w
  dfn : ∀ (f : Fk) (args : List SV) (d d' : DS) (v : SV) (ρ : Env Pl) (w : World), Sx.dfn P hk n f args d = some (v, d') → SV.los d.st.ctr args = true → DSat w0 ρ d w →
    SV.lo d'.st.ctr v = true ∧ Same d d' ∧ Does P f (SV.dens ρ args) w fun e w' => ∃ ρ', e = .returned (SV.den ρ' v) ∧ Step w0 ρ d ρ' d' w'

section
variable {P : Program} {hk : List HK} {w0 : World} {n : Nat}
theorem sndD_zero : SndD P hk w0 0 :=
  ⟨fun _ _ _ _ _ _ _ _ _ h => by simp [Sx.dc] at h, fun _ _ _ _ _ _ _ _ _ _ _ _ h => by simp [Sx.dreg] at h, fun _ _ _ _ _ _ _ _ _ h => by simp [Sx.dc] at h, fun _ _ _ _ _ _ _ _ _ h => by simp [Sx.drp] at h, fun _ _ _ _ _ _ _ _ _ _ _ _ _ _ h => by simp [Sx.drp] at h,
   fun _ _ _ _ _ _ _ _ _ _ _ _ _ _ _ h => by simp [Sx.drs] at h, fun _ _ _ _ _ _ _ _ _ _ _ _ _ _ h => by simp [Sx.drq] at h, fun _ _ _ _ _ _ _ _ _ _ _ _ _ _ _ _ _ _ _ h => by simp [Sx.drq] at h, fun _ _ _ _ _ _ _ _ _ _ _ _ _ h => by simp [Sx.dgo] at h, fun _ _ _ _ _ _ _ h => by simp [Sx.dfn] at h⟩

theorem Same.tsat {d d' : DS} (S : Same d d') {ρ ρ' : Env Pl} {a : Act} (T : TSat ρ d.st a) (hl : Lo d.st) (he : Ext d.st.ctr ρ ρ') (ha : d'.st.asm = []) : TSat ρ' d'.st a :=
  ⟨by rw [S.nt]; exact T.size, T.defers, fun t v hv => by
    rw [S.tmps] at hv
    rw [SV.ext he v (hl.tmps (t, v) (look_mem hv))]
    exact T.tmps t v hv, by rw [ha]; intro x hx; cases hx⟩
theorem wpOp_go {ops : Array Oper} {i : Nat} {o : Oper} (hi : ops[i]? = some o) {a : Act} {w : World} {Q : Exit → Act → World → Prop} {K : Act → World → Prop} (hw : Region.wanted o (yielded ops a.tmps) = true) (h : o.wp P a w K Q) : wpOp P ops Q i K a w := by
  unfold wpOp
  simp only [hi, hw, if_true]
  exact .inl h
theorem wpOp_no {ops : Array Oper} {i : Nat} {o : Oper} (hi : ops[i]? = some o) {a : Act} {w : World} {Q : Exit → Act → World → Prop} {K : Act → World → Prop} (hw : Region.wanted o (yielded ops a.tmps) = false) (h : K (a.put o.dst undef) w) : wpOp P ops Q i K a w := by
  unfold wpOp
  simp only [hi, hw, Bool.false_eq_true, if_false]
  exact h
theorem undef_den (ρ : Env Pl) : SV.den ρ (.tup []) = undef := by simp [SV.den, SV.dens, undef]

theorem putX_all : ∀ (l vs : List SV), l.length = vs.length → putX l 0 vs = vs
  | [], [], _ => rfl
  | [], _ :: _, h => by simp at h
  | _ :: _, [], h => by simp at h
  | a :: l, b :: vs, h => by
    simp only [putX]
    rw [putX_all l vs (by simpa using h)]
theorem cells_lo {t : Nat} {v : SV} (h : SV.lo t v = true) : SV.los t v.cells = true := by
  rw [los_mem]
  intro y hy
  cases v <;> simp only [SV.cells, List.mem_singleton] at hy <;> first
    | (subst hy; exact h)
    | (simp only [SV.lo, los_mem] at h; exact h y hy)
theorem runB_spec {P : Program} {o : Oper} {b : Nat × Nat × Option Operand} (hb : fastB P o = some b) {d d' : DS} (h : runB d o.dst b = some d') :
    ∃ T s n cs d1, opx P d.st o = .call (.bs T s n) cs ∧ SV.los d.st.ctr cs = true ∧ bsD T s n cs d = some (.slc d.st.ctr, d1) ∧ d' = d1.put o.dst (.slc d.st.ctr) := by
  obtain ⟨dst, op, type, pos, after, guard⟩ := o
  unfold fastB at hb
  split at hb
  case h_2 => cases hb
  rename_i t len parts ho
  cases ho
  split at hb
  case h_2 => cases hb
  rename_i el hu
  split at hb
  case h_2 => cases hb
  rename_i n z hn hz
  split at hb
  case h_2 => cases hb
  rename_i hc
  simp only [Bool.and_eq_true, Nat.beq_eq] at hc
  obtain ⟨⟨c1, c2⟩, c3⟩ := hc
  have c2 := Nat.le_of_ble_eq_true c2
  have c3 := Nat.le_of_ble_eq_true c3
  split at hb
  · rename_i hp _
    cases hb
    simp only [runB] at h
    cases h
    refine ⟨el, n, 0, [], { st := { d.st with ctr := d.st.ctr + 1, res := { tag := 0, p := d.st.ctr, key := .slc d.st.ctr, own := true } :: d.st.res }, en := (d.st.ctr, ⟨el, n, 0, []⟩) :: d.en }, ?_, rfl, ?_, ?_⟩
    · simp only [opx, hu, hn, hz, hp, evParts]
      rw [if_pos ⟨c1, c2, c3⟩]
      rfl
    · have : decide (0 < n) = true := decide_eq_true c2
      simp [bsD, this, SV.los]
    · obtain ⟨⟨fn, nt, ctr, tmps, heap, res, asm⟩, en⟩ := d
      simp only [makeB, forceN_eq]
  · rename_i x hp _
    cases hb
    simp only [runB] at h
    split at h
    case h_2 => cases h
    rename_i v hv
    split at h
    case h_2 => cases h
    rename_i hvc
    simp only [Bool.and_eq_true, Nat.beq_eq] at hvc
    cases h
    refine ⟨el, n, 1, v.cells, { st := { d.st with ctr := d.st.ctr + 1, res := { tag := 0, p := d.st.ctr, key := .slc d.st.ctr, own := true } :: d.st.res }, en := (d.st.ctr, ⟨el, n, 1, v.cells⟩) :: d.en }, ?_, cells_lo hvc.2, ?_, ?_⟩
    · simp only [opx, hu, hn, hz, hp, evParts, hv]
      rw [if_pos ⟨c1, c2, c3⟩]
      have e1 : (List.range 1).map (fun i => (i * n, n)) = [(0, n)] := by simp [List.range_succ]
      have e2 : (List.replicate 1 z.cells).flatten = z.cells := by simp
      rw [e1, e2]
      simp only [fillX, List.getElem?_cons_zero]
      rw [if_pos ⟨hvc.1, by omega⟩, putX_all _ _ (by rw [c1, hvc.1])]
    · have : decide (0 < n) = true := decide_eq_true c2
      simp [bsD, this, cells_lo hvc.2, hvc.1]
    · obtain ⟨⟨fn, nt, ctr, tmps, heap, res, asm⟩, en⟩ := d
      simp only [makeB, forceN_eq]
  · cases hb

theorem dgo_sound (S : SndD P hk w0 n) (ops : Array Oper) (i : Nat) (o : Oper) (g : Option (Nat × Bool)) (d d' : DS) (ρ : Env Pl) (a : Act) (w : World) (Q : Exit → Act → World → Prop) (K : Act → World → Prop) (hi : ops[i]? = some o) (hg : guardD ops o = some g)
    (h : dgo P hk (n + 1) o g d = some d') (D : DSat w0 ρ d w) (T : TSat ρ d.st a) (hK : ∀ ρ' a' w', Step w0 ρ d ρ' d' w' → TSat ρ' d'.st a' → K a' w') : wpOp P ops Q i K a w := by
  have putOK : ∀ v : SV, SV.lo d.st.ctr v = true → some (d.put o.dst v) = some d' → K (a.put o.dst (SV.den ρ v)) w := fun v hv he => by
    cases he
    exact hK ρ _ w ⟨Ext.refl _ _, by rw [(put_same d o.dst v).1]; exact Nat.le_refl _, D.put o.dst hv⟩ (put_tsatD T o.dst v)
  have call : ∀ f args, opx P d.st o = .call f args → (if SV.los d.st.ctr args then (match Sx.dfn P hk n f args d with
      | some (v, d1) => some (d1.put o.dst v)
      | none => none) else none) = some d' → o.wp P a w K Q := fun f args ho h => by
    split at h
    case isFalse => cases h
    rename_i hargs
    split at h
    case h_2 => cases h
    rename_i v d1 hd
    obtain ⟨hv, hs, hdo⟩ := S.dfn f args d d1 v ρ w hd hargs D
    cases h
    refine opx_call T ho (Does.mono hdo ?_)
    rintro e w' ⟨ρ', rfl, st⟩
    exact hK ρ' _ w' ⟨st.ext, by rw [(put_same d1 o.dst v).1]; exact st.ctr, st.sat.put o.dst hv⟩ (put_tsatD (hs.tsat T D.lo st.ext st.sat.asm) o.dst v)
  simp only [Sx.dgo] at h
  split at h
  case h_1 => cases h
  case h_2 hw =>
    refine wpOp_no hi (wantD_den T hg hw) ?_
    have := putOK (.tup []) rfl h
    rwa [undef_den] at this
  case h_3 hw =>
    refine wpOp_go hi (wantD_den T hg hw) ?_
    split at h
    · rename_i b hb
      obtain ⟨T', s, m, cs, d1, ho, hlo, hbs, rfl⟩ := runB_spec hb h
      obtain ⟨hv, hs, hdo⟩ := bsD_sound (P := P) hbs D
      refine opx_call T ho (Does.mono hdo ?_)
      rintro e w' ⟨ρ', rfl, st⟩
      exact hK ρ' _ w' ⟨st.ext, by rw [(put_same d1 o.dst _).1]; exact st.ctr, st.sat.put o.dst hv⟩ (put_tsatD (hs.tsat T D.lo st.ext st.sat.asm) o.dst _)
    split at h
    · split at h
      · rename_i v hv
        have hy := valD_yld hv D T
        unfold Oper.wp
        rw [hy.run]
        exact putOK v hy.lo h
      · split at h
        · rename_i f args ho
          exact call f args ho h
        · cases h
    · split at h
      · rename_i hp ho
        split at h
        · rename_i hlo
          cases h
          obtain ⟨w', hr, H'⟩ := opx_mem T D.H ho
          unfold Oper.wp
          rw [hr]
          simp only [List.all_eq_true] at hlo
          have hx : ∀ b ∈ hp, b.x < d.st.ctr ∧ SV.los d.st.ctr b.cs = true := fun b hb => ⟨by
            have hset : ∀ (l : List Blk) (x : Nat) (cs : List SV), ∀ b ∈ setBlk l x cs, ∃ c ∈ l, c.x = b.x := by
              intro l x cs
              induction l with
              | nil => intro b hb; simp [setBlk] at hb
              | cons y l ih =>
                intro b hb
                unfold setBlk at hb
                split at hb
                · rcases List.mem_cons.1 hb with rfl | hb
                  · exact ⟨y, List.mem_cons_self .., rfl⟩
                  · exact ⟨b, List.mem_cons_of_mem _ hb, rfl⟩
                · rcases List.mem_cons.1 hb with rfl | hb
                  · exact ⟨b, List.mem_cons_self .., rfl⟩
                  · obtain ⟨c, hc, he⟩ := ih b hb
                    exact ⟨c, List.mem_cons_of_mem _ hc, he⟩
            have : ∃ x cs, hp = setBlk d.st.heap x cs := by
              clear hK putOK call hg hi hr H'
              obtain ⟨dst, op, type, pos, after, guard⟩ := o
              cases op <;> simp only [opx] at ho
              case store t x y =>
                split at ho
                · cases ho
                · split at ho
                  · rename_i h2
                    cases ho
                    unfold storeX at h2
                    split at h2
                    · split at h2
                      · split at h2
                        · split at h2
                          · cases h2; exact ⟨_, _, rfl⟩
                          · cases h2
                        · cases h2
                      · cases h2
                    · cases h2
                  · cases ho
                · cases ho
              case call c =>
                unfold callX at ho
                split at ho
                · cases ho
                · split at ho
                  · split at ho
                    · unfold callE at ho; split at ho <;> cases ho
                    · cases ho
                  · split at ho
                    · split at ho
                      · unfold callE at ho; split at ho <;> cases ho
                      · cases ho
                    · cases ho
                  · split at ho
                    · unfold optE at ho; split at ho <;> cases ho
                    · unfold optE at ho; split at ho <;> cases ho
                    · unfold optE at ho; split at ho <;> cases ho
                    · split at ho <;> cases ho
                    · cases ho
              all_goals first
                | (cases ho; done)
                | (unfold optE at ho; split at ho <;> cases ho; done)
                | (repeat' split at ho) <;> first
                  | (cases ho; done)
                  | (unfold optE at ho; split at ho <;> cases ho; done)
                  | (unfold optN at ho; split at ho <;> cases ho; done)
            obtain ⟨x, cs, rfl⟩ := this
            obtain ⟨c, hc, he⟩ := hset _ _ _ b hb
            rw [← he]
            exact (D.lo.heap c hc).1, hlo b hb⟩
          have D' : DSat w0 ρ { d with st := { d.st with heap := hp } } w' := ⟨H', ⟨D.lo.tmps, hx, D.lo.res, D.lo.asm⟩, D.asm, D.en⟩
          have T' : TSat ρ ({ d with st := { d.st with heap := hp } } : DS).st a := ⟨T.size, T.defers, T.tmps, T.asm⟩
          have := put_tsatD T' o.dst (.tup [])
          rw [undef_den] at this
          exact hK ρ _ w' ⟨Ext.refl _ _, by rw [(put_same _ o.dst (.tup [])).1]; exact Nat.le_refl _, D'.put o.dst rfl⟩ this
        · cases h
      · rename_i t cs ho
        split at h
        · rename_i hlo
          cases h
          have hr := opx_new T ho w
          unfold Oper.wp
          rw [hr]
          have H2 := D.H.new D.lo.heap D.lo.res t cs
          rw [SV.exts (Ext.setN ρ d.st.ctr w.heap.size) cs hlo] at H2
          have hu : d.st.ctr ≤ d.st.ctr + 1 := Nat.le_succ _
          have D2 : DSat w0 (ρ.setN d.st.ctr w.heap.size) { d with st := { d.st with ctr := d.st.ctr + 1, heap := { x := d.st.ctr, T := t, cs := cs } :: d.st.heap } } _ := ⟨H2, ⟨fun x hx => SV.lo_mono hu _ (D.lo.tmps x hx), fun b hb => (by
            rcases List.mem_cons.1 hb with rfl | hb
            · exact ⟨Nat.lt_succ_self _, SV.los_mono hu _ hlo⟩
            · exact ⟨Nat.lt_succ_of_lt (D.lo.heap b hb).1, SV.los_mono hu _ (D.lo.heap b hb).2⟩), fun e he => ⟨Nat.lt_succ_of_lt (D.lo.res e he).1, SV.lo_mono hu _ (D.lo.res e he).2⟩, fun x hx => (by
            have hx : x ∈ d.st.asm := hx
            rw [D.asm] at hx; cases hx)⟩, D.asm, fun r hr => (by
            obtain ⟨x, e, h1, h2, h3, h4, h5, h6⟩ := D.en r hr
            exact ⟨x, e, h1, h2, h3, by rw [SV.exts (Ext.setN ρ d.st.ctr w.heap.size) _ h5]; exact h4, SV.los_mono hu _ h5, h6⟩)⟩
          have T2 : TSat (ρ.setN d.st.ctr w.heap.size) ({ d with st := { d.st with ctr := d.st.ctr + 1, heap := { x := d.st.ctr, T := t, cs := cs } :: d.st.heap } } : DS).st a := by
            have := T.ext (Ext.setN ρ d.st.ctr w.heap.size) D.lo.tmps D.lo.asm
            exact ⟨this.size, this.defers, this.tmps, this.asm⟩
          have hp : SV.den (ρ.setN d.st.ctr w.heap.size) (.ptr d.st.ctr 0) = .pointer (some ⟨w.heap.size, 0, none⟩) := by simp [SV.den, Out.setN]
          have T3 := put_tsatD T2 o.dst (.ptr d.st.ctr 0)
          rw [hp] at T3
          exact hK _ _ _ ⟨Ext.setN ρ d.st.ctr w.heap.size, by rw [(put_same _ o.dst (.ptr d.st.ctr 0)).1]; exact hu, D2.put o.dst (by simp [SV.lo])⟩ T3
        · cases h
      · rename_i f args ho
        exact call f args ho h
      · cases h
end
end Go.Sx

namespace Go.Sx
open Go
section
variable {P : Program} {hk : List HK} {w0 : World} {n : Nat}

/-- a fast step, in its region. -/
theorem fast_go {ops : Array Oper} {i : Nat} {o : Oper} {g : Option (Nat × Bool)} {f : VF} (hi : ops[i]? = some o) (hg : guardD ops o = some g) (hf : fastN P o g = some f) {d : DS} {v : SV} (hv : f.f d = some v) {w : World} {ρ : Env Pl} {a : Act} (D : DSat w0 ρ d w) (T : TSat ρ d.st a)
    {Q : Exit → Act → World → Prop} {K : Act → World → Prop} (hK : K (a.put o.dst (SV.den ρ v)) w) : wpOp P ops Q i K a w := by
  obtain ⟨rfl, hf⟩ := fastN_sound hf
  refine wpOp_go hi (wantD_den T hg (d := d) rfl) ?_
  unfold Oper.wp
  rw [(fastV_sound hf hv D T).run]
  exact hK
theorem drqL_sound (S : SndD P hk w0 n) (ops : Array Oper) (i : Nat) (o : Oper) (g : Option (Nat × Bool)) (l : List Nat) (d d' : DS) (lg : Log) (ρ : Env Pl) (a : Act) (w : World) (Q : Exit → Act → World → Prop) (hi : ops[i]? = some o) (hg : guardD ops o = some g) (h : drq P hk (n + 1) i o g (planS ops l) [] d = some (d', lg)) (D : DSat w0 ρ d w) (T : TSat ρ d.st a)
    (hK : ∀ ρ' a' w', Step w0 ρ d ρ' d' w' → TSat ρ' d'.st a' → Q .normal a' w') : wpOps P ops Q (i :: l) a w := by
  simp only [Sx.drq] at h
  split at h
  case h_2 => cases h
  rename_i d1 h1
  split at h
  case h_2 => cases h
  split at h
  case h_2 => cases h
  rename_i d2 lg2 h2
  simp only [Option.some.injEq, Prod.mk.injEq] at h
  obtain ⟨rfl, -⟩ := h
  rw [wpOps_cons]
  refine S.dgo ops i o g d d1 ρ a w Q _ hi hg h1 D T fun ρ' a' w' st T' => ?_
  exact S.line ops l d1 d2 lg2 ρ' a' w' Q h2 st.sat T' fun ρ'' a'' w'' st' T'' => hK ρ'' a'' w'' (st.trans st') T''
theorem line_sound (S : SndD P hk w0 n) (ops : Array Oper) (l : List Nat) (d d' : DS) (lg : Log) (ρ : Env Pl) (a : Act) (w : World) (Q : Exit → Act → World → Prop) (h : drp P hk (n + 1) (planS ops l) [] d = some (d', lg)) (D : DSat w0 ρ d w) (T : TSat ρ d.st a)
    (hK : ∀ ρ' a' w', Step w0 ρ d ρ' d' w' → TSat ρ' d'.st a' → Q .normal a' w') : wpOps P ops Q l a w := by
  cases l with
  | nil =>
    simp only [planS, Sx.drp, Option.some.injEq, Prod.mk.injEq] at h
    obtain ⟨rfl, -⟩ := h
    exact hK ρ a w (Step.refl D) T
  | cons i l =>
    simp only [planS] at h
    split at h
    · simp [Sx.drp] at h
    · rename_i o hi
      split at h
      · simp [Sx.drp] at h
      · rename_i g hg
        simp only [Sx.drp] at h
        split at h
        · rename_i f hf
          split at h
          · rename_i v hv
            rw [wpOps_cons]
            have e1 := (put_same d o.dst v).1
            have hl := (fastV_sound (fastN_sound hf).2 hv D T).lo
            refine fast_go hi hg hf hv D T ?_
            exact S.line ops l _ d' lg ρ _ w Q h (D.put o.dst hl) (put_tsatD T o.dst v) fun ρ' a' w' st T' => hK ρ' a' w' ⟨by have := st.ext; rwa [e1] at this, by have := st.ctr; rwa [e1] at this, st.sat⟩ T'
          · exact S.drqL ops i o g l d d' lg ρ a w Q hi hg h D T hK
        · exact S.drqL ops i o g l d d' lg ρ a w Q hi hg h D T hK

theorem takeI_spec {ops : Array Oper} {listed : Array Bool} {bad : List Nat} {loads : Bool} : ∀ {rs : List Nat} {i : Nat} {o : Oper}, takeI ops listed bad loads rs = some (i, o) → i ∈ rs ∧ ops[i]? = some o ∧ (isTake o = true ∨ isLoad o = true) ∧ Region.free .any ops listed i = true
  | [], _, _, h => by simp [takeI] at h
  | j :: l, i, o, h => by
    unfold takeI at h
    split at h
    · cases h
    · rename_i o' ho
      split at h
      · rename_i hc
        cases h
        simp only [Bool.and_eq_true, Bool.or_eq_true] at hc
        exact ⟨List.mem_cons_self .., ho, hc.1.imp id fun h => h.1.2, hc.2⟩
      · obtain ⟨h1, h2⟩ := takeI_spec h
        exact ⟨List.mem_cons_of_mem _ h1, h2⟩

/-- a step that is taken at once. -/
theorem val_yields {d : DS} {ρ : Env Pl} {a : Act} (T : TSat ρ d.st a) {w : World} (D : DSat w0 ρ d w) {ops : Array Oper} {o : Oper} {g : Option (Nat × Bool)} (hg : guardD ops o = some g) (ht : isTake o = true) {d1 : DS} (h : takeD P d o g = some d1) (J : World → Prop) :
    ∃ v, SV.lo d.st.ctr v = true ∧ d1 = d.put o.dst v ∧ YieldsIf P ops J o (SV.den ρ v) a := by
  unfold takeD at h
  split at h
  · rename_i v hv
    cases h
    split at hv
    · rename_i f hf
      obtain ⟨rfl, hf⟩ := fastN_sound hf
      have hy := fastV_sound hf hv D T
      exact ⟨v, hy.lo, rfl, .inl ⟨wantD_den T hg (d := d) rfl, fun w' _ => hy.any ht w'⟩⟩
    · cases hv
  split at h
  · rename_i hw
    split at h
    · rename_i v hv
      cases h
      have hy := valD_yld hv D T
      exact ⟨v, hy.lo, rfl, .inl ⟨wantD_den T hg hw, fun w' _ => hy.any ht w'⟩⟩
    · cases h
  · rename_i hw
    cases h
    exact ⟨.tup [], rfl, rfl, .inr ⟨wantD_den T hg hw, undef_den ρ⟩⟩
  · cases h
theorem held_yields {d : DS} {ρ ρ0 : Env Pl} {t : Nat} {a : Act} (T : TSat ρ d.st a) {hold : List HdX} (hl : HdLo t hold) (he : Ext t ρ0 ρ) {ops : Array Oper} {o : Oper} {g : Option (Nat × Bool)} (hg : guardD ops o = some g) {d1 : DS} (h : heldD P hold d o g = some d1) :
    ∃ v, SV.lo d.st.ctr v = true ∧ d1 = d.put o.dst v ∧ YieldsIf P ops (HJ P ρ0 hold) o (SV.den ρ v) a := by
  unfold heldD at h
  split at h
  · rename_i hx ha
    split at h
    · rename_i hc
      simp only [Bool.and_eq_true] at hc
      cases h
      unfold heldA at ha
      split at ha
      · rename_i hw
        split at ha
        · rename_i T' x hop
          split at ha
          · rename_i av hav
            split at ha
            · rename_i v hv
              cases ha
              refine ⟨v, hc.2, rfl, .inl ⟨wantD_den T hg hw, fun w' hJ => ?_⟩⟩
              obtain ⟨y, hy, e1, e2, e3⟩ := inHold_spec hc.1
              have := hJ y hy
              have hlo := hl y hy
              rw [e1, e2, e3] at this
              rw [e2, e3] at hlo
              simp only [execOp, hop, ev_den T hav, SV.ext he _ hlo.1, SV.ext he _ hlo.2]
              simp [this]
            · cases ha
          · cases ha
        · cases ha
      · cases ha
      · cases ha
    · cases h
  · rename_i ha
    cases h
    unfold heldA at ha
    split at ha
    · split at ha
      · split at ha
        · split at ha <;> cases ha
        · cases ha
      · cases ha
    · rename_i hw
      exact ⟨.tup [], rfl, rfl, .inr ⟨wantD_den T hg hw, undef_den ρ⟩⟩
    · cases ha
  · cases h

theorem drp_sound (S : SndD P hk w0 n) (ops : Array Oper) (loads : List Nat) (m : Nat) (listed : Array Bool) (hold : List HdX) (d d' : DS) (lg : Log) (ρ ρ0 : Env Pl) (t : Nat) (a : Act) (w : World) (Q : Exit → Act → World → Prop) (h : drp P hk (n + 1) (planA ops loads m listed) hold d = some (d', lg))
    (hns : Region.noSelect ops = true) (hl : HdLo t hold) (he : Ext t ρ0 ρ) (ht : t ≤ d.st.ctr) (hJ : HJ P ρ0 hold w) (hQ : ∀ c a w, ¬ Q (.panic c) a w) (D : DSat w0 ρ d w) (T : TSat ρ d.st a)
    (hK : ∀ ρ' a' w', Step w0 ρ d ρ' d' w' → TSat ρ' d'.st a' → Q .normal a' w') : wpAnyH P .any ops Q (HJ P ρ0 hold) m listed a w := by
  cases m with
  | zero =>
    simp only [planA] at h
    split at h
    · rename_i hr
      simp only [Sx.drp, Option.some.injEq, Prod.mk.injEq] at h
      obtain ⟨rfl, -⟩ := h
      exact wpAnyH_done hr (hK ρ a w (Step.refl D) T) 0
    · simp [Sx.drp] at h
  | succ m =>
    simp only [planA] at h
    split at h
    · rename_i hr
      simp only [Sx.drp, Option.some.injEq, Prod.mk.injEq] at h
      obtain ⟨rfl, -⟩ := h
      exact wpAnyH_done hr (hK ρ a w (Step.refl D) T) _
    · rename_i rs hr
      have taken : ∀ (i : Nat) (o : Oper) (v : SV) (d1 : DS), i ∈ Region.ready .any ops listed → ops[i]? = some o → Region.free .any ops listed i = true → SV.lo d.st.ctr v = true → d1 = d.put o.dst v → YieldsIf P ops (HJ P ρ0 hold) o (SV.den ρ v) a →
          drp P hk n (planA ops loads m (listed.setIfInBounds i true)) hold d1 = some (d', lg) → wpAnyH P .any ops Q (HJ P ρ0 hold) (m + 1) listed a w := fun i o v d1 hi ho hf hv e hy h => by
        subst e
        have e1 := (put_same d o.dst v).1
        refine wpAnyH_take ho hns hf (by rw [List.contains_iff_mem]; exact hi) (fun c a w hp => absurd hp (hQ c _ w)) hy hJ ?_
        exact S.drp ops loads m _ hold _ d' lg ρ ρ0 t _ w Q h hns hl he (by rw [e1]; exact ht) hJ hQ (D.put o.dst hv) (put_tsatD T o.dst v) fun ρ' a' w' st T' => hK ρ' a' w' ⟨by have := st.ext; rwa [e1] at this, by have := st.ctr; rwa [e1] at this, st.sat⟩ T'
      split at h
      · rename_i i o hti
        obtain ⟨hi, ho, hkind, hf⟩ := takeI_spec hti
        split at h
        case h_2 => simp [Sx.drp] at h
        rename_i g hg
        split at h
        · rename_i htk
          simp only [Sx.drp] at h
          split at h
          case h_2 => cases h
          rename_i d1 h1
          obtain ⟨v, hv, e, hy⟩ := val_yields T D hg htk h1 (HJ P ρ0 hold)
          exact taken i o v d1 hi ho hf hv e hy h
        · simp only [Sx.drp] at h
          split at h
          case h_2 => cases h
          rename_i d1 h1
          obtain ⟨v, hv, e, hy⟩ := held_yields T hl he hg h1
          exact taken i o v d1 hi ho hf hv e hy h
      · have hr2 := hr
        split at h
        · rename_i i hrs
          split at h
          · simp [Sx.drp] at h
          rename_i o ho
          split at h
          · simp [Sx.drp] at h
          rename_i g hg
          simp only [Sx.drp] at h
          have slow : drq P hk n i o g (planA ops loads m (listed.setIfInBounds i true)) hold d = some (d', lg) → wpAnyH P .any ops Q (HJ P ρ0 hold) (m + 1) listed a w := fun h => by
            refine wpAnyH_all hrs (by simp) fun j hj => ?_
            simp only [List.mem_singleton] at hj
            subst hj
            exact S.drqA ops loads m listed j o g hold d d' lg ρ ρ0 t a w Q ho hg h hns hl he ht hQ D T hK
          split at h
          · rename_i f hf
            split at h
            · rename_i v hv
              have e1 := (put_same d o.dst v).1
              have hlo := (fastV_sound (fastN_sound hf).2 hv D T).lo
              refine wpAnyH_all hrs (by simp) fun j hj => ?_
              simp only [List.mem_singleton] at hj
              subst hj
              refine fast_go ho hg hf hv D T ⟨hJ, ?_⟩
              exact S.drp ops loads m _ hold _ d' lg ρ ρ0 t _ w Q h hns hl he (by rw [e1]; exact ht) hJ hQ (D.put o.dst hlo) (put_tsatD T o.dst v) fun ρ' a' w' st T' => hK ρ' a' w' ⟨by have := st.ext; rwa [e1] at this, by have := st.ctr; rwa [e1] at this, st.sat⟩ T'
            · exact slow h
          · exact slow h
        refine wpAnyH_all rfl (fun e => hr2 e) ?_
        generalize Region.ready .any ops listed = rs' at h hr hr2
        cases rs' with
        | nil => exact absurd rfl hr2
        | cons i l =>
          simp only [planL] at h
          split at h
          · simp only [Sx.drp] at h
            split at h
            · split at h
              · cases n <;> simp [Sx.drp] at h
              · cases h
            · cases h
          · rename_i o ho
            split at h
            · simp only [Sx.drp] at h
              split at h
              · split at h
                · cases n <;> simp [Sx.drp] at h
                · cases h
              · cases h
            · rename_i g hg
              simp only [Sx.drp] at h
              split at h
              case h_2 => cases h
              rename_i d1 h1
              split at h
              case isFalse => cases h
              rename_i hh
              split at h
              case h_2 => cases h
              rename_i d2 lg2 h2
              split at h
              case isFalse => cases h
              rename_i hs
              simp only [Option.some.injEq, Prod.mk.injEq] at h
              obtain ⟨rfl, -⟩ := h
              intro j hj
              rcases List.mem_cons.1 hj with rfl | hj
              · refine S.dgo ops j o g d d1 ρ a w Q _ ho hg h1 D T fun ρ' a' w' st T' => ?_
                have he2 := he.trans st.ext ht
                have hJ' := (holdD_sound (P := P) st.sat hh).ext hl he2
                exact ⟨hJ', S.drp ops loads m _ hold d1 d2 lg2 ρ' ρ0 t a' w' Q h2 hns hl he2 (Nat.le_trans ht st.ctr) hJ' hQ st.sat T' fun ρ'' a'' w'' st' T'' => hK ρ'' a'' w'' (st.trans st') T''⟩
              · exact S.drs ops loads m listed l hold d d2 _ ρ ρ0 t a w Q hs hns hl he ht hJ hQ D T hK j hj

theorem drqA_sound (S : SndD P hk w0 n) (ops : Array Oper) (loads : List Nat) (m : Nat) (listed : Array Bool) (i : Nat) (o : Oper) (g : Option (Nat × Bool)) (hold : List HdX) (d d' : DS) (lg : Log) (ρ ρ0 : Env Pl) (t : Nat) (a : Act) (w : World) (Q : Exit → Act → World → Prop) (hi : ops[i]? = some o) (hg : guardD ops o = some g) (h : drq P hk (n + 1) i o g (planA ops loads m (listed.setIfInBounds i true)) hold d = some (d', lg))
    (hns : Region.noSelect ops = true) (hl : HdLo t hold) (he : Ext t ρ0 ρ) (ht : t ≤ d.st.ctr) (hQ : ∀ c a w, ¬ Q (.panic c) a w) (D : DSat w0 ρ d w) (T : TSat ρ d.st a)
    (hK : ∀ ρ' a' w', Step w0 ρ d ρ' d' w' → TSat ρ' d'.st a' → Q .normal a' w') : wpOp P ops Q i (fun a' w' => HJ P ρ0 hold w' ∧ wpAnyH P .any ops Q (HJ P ρ0 hold) m (listed.setIfInBounds i true) a' w') a w := by
  simp only [Sx.drq] at h
  split at h
  case h_2 => cases h
  rename_i d1 h1
  split at h
  case h_2 => cases h
  rename_i hh
  split at h
  case h_2 => cases h
  rename_i d2 lg2 h2
  simp only [Option.some.injEq, Prod.mk.injEq] at h
  obtain ⟨rfl, -⟩ := h
  refine S.dgo ops i o g d d1 ρ a w Q _ hi hg h1 D T fun ρ' a' w' st T' => ?_
  have he2 := he.trans st.ext ht
  have hJ' := (holdD_sound (P := P) st.sat hh).ext hl he2
  exact ⟨hJ', S.drp ops loads m _ hold d1 d2 lg2 ρ' ρ0 t a' w' Q h2 hns hl he2 (Nat.le_trans ht st.ctr) hJ' hQ st.sat T' fun ρ'' a'' w'' st' T'' => hK ρ'' a'' w'' (st.trans st') T''⟩

theorem drs_sound (S : SndD P hk w0 n) (ops : Array Oper) (loads : List Nat) (m : Nat) (listed : Array Bool) (rs : List Nat) (hold : List HdX) (d dA : DS) (lA : Log) (ρ ρ0 : Env Pl) (t : Nat) (a : Act) (w : World) (Q : Exit → Act → World → Prop) (h : drs P hk (n + 1) (planL ops listed (planA ops loads m) rs) hold d d.st.ctr dA lA = true)
    (hns : Region.noSelect ops = true) (hl : HdLo t hold) (he : Ext t ρ0 ρ) (ht : t ≤ d.st.ctr) (hJ : HJ P ρ0 hold w) (hQ : ∀ c a w, ¬ Q (.panic c) a w) (D : DSat w0 ρ d w) (T : TSat ρ d.st a)
    (hK : ∀ ρ' a' w', Step w0 ρ d ρ' dA w' → TSat ρ' dA.st a' → Q .normal a' w') : ∀ i ∈ rs, wpOp P ops Q i (fun a' w' => HJ P ρ0 hold w' ∧ wpAnyH P .any ops Q (HJ P ρ0 hold) m (listed.setIfInBounds i true) a' w') a w := by
  cases rs with
  | nil => intro i hi; cases hi
  | cons i l =>
    simp only [planL] at h
    split at h
    · simp only [Sx.drs] at h
      split at h
      · simp only [Bool.and_eq_true] at h
        obtain ⟨-, h⟩ := h
        split at h
        · rename_i hx
          cases n <;> simp [Sx.drp] at hx
        · cases h
      · cases h
    · rename_i o ho
      split at h
      · simp only [Sx.drs] at h
        split at h
        · simp only [Bool.and_eq_true] at h
          obtain ⟨-, h⟩ := h
          split at h
          · rename_i hx
            cases n <;> simp [Sx.drp] at hx
          · cases h
        · cases h
      · rename_i g hg
        simp only [Sx.drs] at h
        split at h
        case h_2 => cases h
        rename_i d1 h1
        simp only [Bool.and_eq_true] at h
        obtain ⟨hh, h⟩ := h
        split at h
        case h_2 => cases h
        rename_i d2 lg2 h2
        simp only [Bool.and_eq_true] at h
        obtain ⟨hal, hs⟩ := h
        intro j hj
        rcases List.mem_cons.1 hj with rfl | hj
        · refine S.dgo ops j o g d d1 ρ a w Q _ ho hg h1 D T fun ρ' a' w' st T' => ?_
          have he2 := he.trans st.ext ht
          have hJ' := (holdD_sound (P := P) st.sat hh).ext hl he2
          refine ⟨hJ', S.drp ops loads m _ hold d1 d2 lg2 ρ' ρ0 t a' w' Q h2 hns hl he2 (Nat.le_trans ht st.ctr) hJ' hQ st.sat T' fun ρ'' a'' w'' st' T'' => ?_⟩
          obtain ⟨ρ3, st3, T3⟩ := alike_step hal (st.trans st') T''
          exact hK ρ3 a'' w'' st3 T3
        · exact S.drs ops loads m listed l hold d dA lA ρ ρ0 t a w Q hs hns hl he ht hJ hQ D T hK j hj

/-- what is known of functions is so. -/
def HookOK (P : Program) (hk : List HK) : Prop := ∀ h ∈ hk, ∀ (args : List SV) (d : DS) (v : SV), h.run args d = some v → SV.los d.st.ctr args = true → ∀ (w0 w : World) (ρ : Env Pl), DSat w0 ρ d w →
  Calls P h.fn (SV.dens ρ args).toArray w fun e w' => e = .returned (SV.den ρ v) ∧ Fr (fun _ => False) w w'
theorem DSat.grow {w w' : World} {ρ : Env Pl} {d : DS} (D : DSat w0 ρ d w) (h : Fr (fun _ => False) w w') : DSat w0 ρ d w' := by
  have hs : ∀ i, i < w.heap.size → w'.heap[i]? = w.heap[i]? := fun i hi => h.same i hi fun hf => hf
  have H := D.H
  refine ⟨⟨fun b hb => ?_, H.dist, fun e he => PI.stable (H.res e he) fun i hi => hs i (PI.lt (H.res e he) hi), H.apart, H.sep, H.per, H.mine, H.mineR, H.shar, ⟨h.os.trans H.frame.os, h.tape.trans H.frame.tape, h.out.trans H.frame.out, Nat.le_trans H.frame.size h.size, fun i hi hF => ?_⟩⟩, D.lo, D.asm, D.en⟩
  · rw [hs _ (Array.getElem?_eq_some_iff.1 (H.blk b hb)).1]
    exact H.blk b hb
  · rw [hs i (Nat.lt_of_lt_of_le hi H.frame.size)]
    exact H.frame.same i hi hF
theorem findHK_mem : ∀ {l : List HK} {f : Nat} {h : HK}, findHK l f = some h → h ∈ l ∧ h.fn = f
  | [], _, _, h => by simp [findHK] at h
  | k :: l, f, h, hh => by
    unfold findHK at hh
    split at hh
    · rename_i e
      cases hh
      exact ⟨List.mem_cons_self .., Nat.eq_of_beq_eq_true e⟩
    · exact ⟨List.mem_cons_of_mem _ (findHK_mem hh).1, (findHK_mem hh).2⟩
theorem dfn_sound (hOK : HookOK P hk) (S : SndD P hk w0 n) (f : Fk) (args : List SV) (d d' : DS) (v : SV) (ρ : Env Pl) (w : World) (h : dfn P hk (n + 1) f args d = some (v, d')) (hargs : SV.los d.st.ctr args = true) (D : DSat w0 ρ d w) :
    SV.lo d'.st.ctr v = true ∧ Same d d' ∧ Does P f (SV.dens ρ args) w fun e w' => ∃ ρ', e = .returned (SV.den ρ' v) ∧ Step w0 ρ d ρ' d' w' := by
  cases f with
  | fn f =>
    simp only [Sx.dfn] at h
    split at h
    · rename_i hx hfind
      obtain ⟨hm, rfl⟩ := findHK_mem hfind
      split at h
      · rename_i u hu
        split at h
        · rename_i hlo
          simp only [Option.some.injEq, Prod.mk.injEq] at h
          obtain ⟨rfl, rfl⟩ := h
          refine ⟨hlo, Same.refl _, Does.mono (k := .fn hx.fn) (hOK hx hm args d u hu hargs w0 w ρ D) ?_⟩
          rintro e w' ⟨rfl, hfr⟩
          exact ⟨ρ, rfl, Ext.refl _ _, Nat.le_refl _, D.grow hfr⟩
        · cases h
      · cases h
    split at h
    case h_1 => cases h
    rename_i fn hf
    split at h
    case h_1 => cases h
    rename_i c hc
    split at h
    case h_1 => cases h
    case h_3 => cases h
    rename_i x e d1 hne hd
    split at h
    case h_2 => cases h
    rename_i vs hvs
    split at h
    case h_2 => cases h
    rename_i hlo
    simp only [Option.some.injEq, Prod.mk.injEq] at h
    obtain ⟨rfl, rfl⟩ := h
    -- the state at its entry
    have hen : ∀ (i : Nat) (l : List SV), (∀ v ∈ l, SV.lo d.st.ctr v = true) → ∀ x ∈ enumT i l, SV.lo d.st.ctr x.2 = true := by
      intro i l
      induction l generalizing i with
      | nil => intro _ x hx; simp [enumT] at hx
      | cons a l ih =>
        intro hl x hx
        simp only [enumT, List.mem_cons] at hx
        rcases hx with rfl | hx
        · exact hl a (List.mem_cons_self ..)
        · exact ih (i + 1) (fun v hv => hl v (List.mem_cons_of_mem _ hv)) x hx
    have D0 : DSat w0 ρ { d with st := { d.st with fn := f, nt := args.length + (fn.ntmps - args.length), tmps := enumT 0 args } } w := ⟨D.H, ⟨hen 0 args (los_mem.1 hargs), D.lo.heap, D.lo.res, D.lo.asm⟩, D.asm, D.en⟩
    have hv1 : SV.lo d1.st.ctr (oneX vs) = true := by
      rw [los_mem] at hlo
      cases vs with
      | nil => rfl
      | cons a l =>
        cases l with
        | nil => exact hlo a (List.mem_cons_self ..)
        | cons b l => simp only [oneX, SV.lo, los_mem]; exact hlo
    have gc : ∀ {ρ' : Env Pl} {w' : World}, DSat w0 ρ' d1 w' → _ := fun {ρ'} {w'} D' => gcD_sound D' d.st.ctr (oneX vs)
    have hctr : (gcD d.st.ctr (oneX vs) d1).st.ctr = d1.st.ctr := by unfold gcD; split <;> rfl
    refine ⟨by show SV.lo (gcD d.st.ctr (oneX vs) d1).st.ctr _ = true; rw [hctr]; exact hv1, ⟨rfl, rfl, rfl⟩, ?_⟩
    refine calls_of_wp hf hc (S.dc _ c _ d1 e ρ _ w _ hd D0 (enter_tsat (by rw [D.asm]; intro x hx; cases hx) args f fn.ntmps) fun ρ' a' w' st T' => ?_)
    have fin : a'.defers = [] ∧ ∃ u, (results fn a'.tmps).run P w' = .ok u w' ∧ (fun e w' => ∃ ρ', e = Ending.returned (SV.den ρ' (oneX vs)) ∧ Step w0 ρ d ρ' { gcD d.st.ctr (oneX vs) d1 with st := { (gcD d.st.ctr (oneX vs) d1).st with fn := d.st.fn, nt := d.st.nt, tmps := d.st.tmps } } w') (.returned u) w' := by
      refine ⟨T'.defers, SV.den ρ' (oneX vs), ?_, ρ', rfl, st.ext, by show d.st.ctr ≤ (gcD d.st.ctr (oneX vs) d1).st.ctr; rw [hctr]; exact st.ctr, ?_⟩
      · have := results_run (X := ⟨⟨P, [], [], []⟩, PI, F0, w0, [], [], fun _ _ _ _ => True⟩) T' st.sat.H hvs
        simp only [results_rv, Array.mapM_eq_mapM_toList, Sem.run_bind, Sem.run_map, this, Result.andThen_ok, Sem.run_pure]
        rw [one_den]
      · obtain ⟨G, -, -⟩ := gc st.sat
        exact ⟨G.H, ⟨fun x hx => SV.lo_mono (by rw [hctr]; exact st.ctr) _ (D.lo.tmps x hx), G.lo.heap, G.lo.res, G.lo.asm⟩, G.asm, G.en⟩
    cases e with
    | normal => exact fin
    | exit i => exact (hne i rfl).elim
    | ret => exact fin
  | ld T s =>
    simp only [Sx.dfn] at h
    split at h
    case h_2 => cases h
    rename_i x k i
    split at h
    case h_2 => cases h
    rename_i u hu
    simp only [Option.some.injEq, Prod.mk.injEq] at h
    obtain ⟨rfl, rfl⟩ := h
    obtain ⟨h1, h2⟩ := ldD_sound hu D
    exact ⟨h2, Same.refl _, ⟨_, w, h1, ρ, rfl, Step.refl D⟩⟩
  | st T s =>
    simp only [Sx.dfn] at h
    split at h
    case h_2 => cases h
    rename_i x k i u
    split at h
    case h_2 => cases h
    rename_i d1 hd
    simp only [Option.some.injEq, Prod.mk.injEq] at h
    obtain ⟨rfl, rfl⟩ := h
    obtain ⟨h1, h2⟩ := stD_sound hd D k
    refine ⟨rfl, h1, Does.mono h2 ?_⟩
    rintro e w' ⟨ρ', rfl, st⟩
    exact ⟨ρ', by rw [undef_den], st⟩
  | bs T s m => simp only [Sx.dfn] at h; exact bsD_sound h D
  | mk t => simp only [Sx.dfn] at h; exact mkD_sound h D
  | app t u => simp only [Sx.dfn] at h; exact appD_sound h hargs D
  | sl t lo hi => simp [Sx.dfn] at h
  | nilr T s => simp [Sx.dfn] at h

theorem lp_sound (S : SndD P hk w0 n) (live : List Nat) (c : Code) (d d' : DS) (e : Ex) (ρ : Env Pl) (a : Act) (w : World) (Q : Exit → Act → World → Prop) (h : Sx.dc P hk live (n + 1) (.loop (DC.of c)) d = some (e, d')) (D : DSat w0 ρ d w) (T : TSat ρ d.st a)
    (hK : ∀ ρ' a' w', Step w0 ρ d ρ' d' w' → TSat ρ' d'.st a' → Q e.up a' w') : Code.rounds P c Q (n + 1) a w := by
  rw [rounds_succ]
  simp only [Sx.dc] at h
  split at h
  · rename_i d1 h1
    refine S.dc live c d d1 .normal ρ a w _ h1 D T fun ρ' a' w' st T' => ?_
    exact S.lp live c d1 d' e ρ' a' w' Q h st.sat T' fun ρ'' a'' w'' st' T'' => hK ρ'' a'' w'' (st.trans st') T''
  · rename_i r hr
    refine S.dc live c d d' e ρ a w _ h D T fun ρ' a' w' st T' => ?_
    cases e with
    | normal => exact (hr d' h).elim
    | exit i => exact hK ρ' a' w' st T'
    | ret => exact hK ρ' a' w' st T'

theorem dc_sound (S : SndD P hk w0 n) (live : List Nat) (c : Code) (d d' : DS) (e : Ex) (ρ : Env Pl) (a : Act) (w : World) (Q : Exit → Act → World → Prop) (h : Sx.dc P hk live (n + 1) (DC.of c) d = some (e, d')) (D : DSat w0 ρ d w) (T : TSat ρ d.st a)
    (hK : ∀ ρ' a' w', Step w0 ρ d ρ' d' w' → TSat ρ' d'.st a' → Q e.up a' w') : c.wp P Q a w := by
  cases c with
  | skip =>
    simp only [DC.of, Sx.dc, Option.some.injEq, Prod.mk.injEq] at h
    obtain ⟨rfl, rfl⟩ := h
    exact wp_skip (hK ρ a w (Step.refl D) T)
  | label l =>
    simp only [DC.of, Sx.dc, Option.some.injEq, Prod.mk.injEq] at h
    obtain ⟨rfl, rfl⟩ := h
    exact wp_label (hK ρ a w (Step.refl D) T)
  | ret =>
    simp only [DC.of, Sx.dc, Option.some.injEq, Prod.mk.injEq] at h
    obtain ⟨rfl, rfl⟩ := h
    exact wp_ret (hK ρ a w (Step.refl D) T)
  | exit id =>
    simp only [DC.of, Sx.dc, Option.some.injEq, Prod.mk.injEq] at h
    obtain ⟨rfl, rfl⟩ := h
    exact wp_exit (hK ρ a w (Step.refl D) T)
  | seq x y =>
    simp only [DC.of, Sx.dc] at h
    split at h
    · rename_i d1 h1
      refine wp_seq (S.dc live x d d1 .normal ρ a w _ h1 D T fun ρ' a' w' st T' => ?_)
      exact S.dc live y d1 d' e ρ' a' w' Q h st.sat T' fun ρ'' a'' w'' st' T'' => hK ρ'' a'' w'' (st.trans st') T''
    · rename_i hr
      refine wp_seq (S.dc live x d d' e ρ a w _ h D T fun ρ' a' w' st T' => ?_)
      cases e with
      | normal => exact (hr d' h).elim
      | exit i => exact hK ρ' a' w' st T'
      | ret => exact hK ρ' a' w' st T'
  | cond c x y =>
    simp only [DC.of, Sx.dc] at h
    split at h
    · rename_i hb
      exact wp_cond_true (by rw [ev_den T hb]; simp [SV.den, BE.den]) (S.dc live x d d' e ρ a w Q h D T hK)
    · rename_i hb
      exact wp_cond_false (by rw [ev_den T hb]; simp [SV.den, BE.den]) (S.dc live y d d' e ρ a w Q h D T hK)
    · cases h
  | block id c =>
    simp only [DC.of, Sx.dc] at h
    refine wp_block ?_
    split at h
    · rename_i i d1 h1
      split at h
      · rename_i hi
        simp only [Option.some.injEq, Prod.mk.injEq] at h
        obtain ⟨rfl, rfl⟩ := h
        refine S.dc live c d d1 (.exit i) ρ a w _ h1 D T fun ρ' a' w' st T' => ?_
        show (if i = id then Q .normal a' w' else Q (.exit i) a' w')
        rw [if_pos hi]
        exact hK ρ' a' w' st T'
      · rename_i hi
        simp only [Option.some.injEq, Prod.mk.injEq] at h
        obtain ⟨rfl, rfl⟩ := h
        refine S.dc live c d d1 (.exit i) ρ a w _ h1 D T fun ρ' a' w' st T' => ?_
        show (if i = id then Q .normal a' w' else Q (.exit i) a' w')
        rw [if_neg hi]
        exact hK ρ' a' w' st T'
    · rename_i hr
      refine S.dc live c d d' e ρ a w _ h D T fun ρ' a' w' st T' => ?_
      cases e with
      | normal => exact hK ρ' a' w' st T'
      | exit i => exact (hr i d' h).elim
      | ret => exact hK ρ' a' w' st T'
  | loop c =>
    simp only [DC.of] at h
    exact wp_loop_rounds (n + 1) (lp_sound S live c d d' e ρ a w Q h D T hK)
  | region id ops draw =>
    cases draw with
    | false =>
      simp only [DC.of, Bool.false_eq_true, if_false, Sx.dc] at h
      split at h
      case h_2 => cases h
      rename_i d1 lg h1
      simp only [Option.some.injEq, Prod.mk.injEq] at h
      obtain ⟨rfl, rfl⟩ := h
      exact wp_region (S.line ops _ d d1 lg ρ a w Q h1 D T fun ρ' a' w' st T' => hK ρ' a' w' ⟨st.ext, st.ctr, st.sat.pruned⟩ (pruned_tsat T'))
    | true =>
      simp only [DC.of, if_true] at h
      split at h
      case isFalse => simp [Sx.dc] at h
      rename_i hns
      simp only [Sx.dc] at h
      split at h
      · exact S.dreg live id ops _ _ d d' e ρ a w Q h hns D T hK
      · exact S.dreg live id ops _ _ d d' e ρ a w Q h hns D T hK
  | rangeFunc f p x y => simp [DC.of, Sx.dc] at h
  | scope c => simp [DC.of, Sx.dc] at h
  | goto l => simp [DC.of, Sx.dc] at h
  | refuse s => simp [DC.of, Sx.dc] at h
theorem dreg_sound (S : SndD P hk w0 n) (live : List Nat) (id : Nat) (ops : Array Oper) (loads : List Nat) (hold : List HdX) (d d' : DS) (e : Ex) (ρ : Env Pl) (a : Act) (w : World) (Q : Exit → Act → World → Prop) (h : dreg P hk (n + 1) live (planA ops loads ops.size (Array.replicate ops.size false)) hold d = some (e, d')) (hns : Region.noSelect ops = true) (D : DSat w0 ρ d w) (T : TSat ρ d.st a)
    (hK : ∀ ρ' a' w', Step w0 ρ d ρ' d' w' → TSat ρ' d'.st a' → Q e.up a' w') : (Code.region id ops true).wp P Q a w := by
  simp only [Sx.dreg] at h
  split at h
  case h_2 => cases h
  rename_i hc
  simp only [Bool.and_eq_true, List.all_eq_true] at hc
  obtain ⟨⟨hm, hlo⟩, hh⟩ := hc
  split at h
  case h_2 => cases h
  rename_i d1 lg h1
  simp only [Option.some.injEq, Prod.mk.injEq] at h
  obtain ⟨rfl, rfl⟩ := h
  have D' : DSat w0 ρ d { w with drawn := w.drawn + 1 } := ⟨D.H.drawn (w.drawn + 1), D.lo, D.asm, D.en⟩
  refine wp_mono (Q := fun e a w => match e with | .normal => Q .normal a w | .exit i => Q (.exit i) a w | .ret => Q .ret a w | _ => False)
    (wp_region_held hm (S.drp ops _ _ _ hold d d1 lg ρ ρ d.st.ctr a _ _ h1 hns hlo (Ext.refl _ _) (Nat.le_refl _) (holdD_sound D' hh) (fun _ _ _ hx => hx) D' T fun ρ' a' w' st T' => hK ρ' a' w' ⟨st.ext, st.ctr, st.sat.pruned⟩ (pruned_tsat T'))) ?_
  intro e a w hq
  cases e <;> first
    | exact hq
    | exact hq.elim
theorem sndD {P : Program} {hk : List HK} (hOK : HookOK P hk) (w0 : World) : ∀ n, SndD P hk w0 n
  | 0 => sndD_zero
  | n + 1 => have S := sndD hOK w0 n
    ⟨dc_sound S, dreg_sound S, lp_sound S, line_sound S, drp_sound S, drs_sound S, drqL_sound S, drqA_sound S, dgo_sound S, dfn_sound hOK S⟩
end
theorem start_sat (w : World) : DSat w out0 DS.start w :=
  ⟨⟨fun b hb => (by cases hb), List.Pairwise.nil, fun b hb => (by cases hb), fun b hb => (by cases hb), List.Pairwise.nil, fun b hb => (by cases hb), fun b hb => (by cases hb), fun b hb => (by cases hb), fun b hb => (by cases hb), Fr.refl _ _⟩,
    ⟨fun b hb => (by cases hb), fun b hb => (by cases hb), fun b hb => (by cases hb), fun b hb => (by cases hb)⟩, rfl, fun b hb => (by cases hb)⟩
end Go.Sx

namespace Go.Sx
open Go

/-- code that runs on, part by part. -/
def tops : Code → List Code
  | .seq a b => tops a ++ tops b
  | c => [c]
def wpL (P : Program) (Q : Exit → Act → World → Prop) : List Code → Act → World → Prop
  | [], a, w => Q .normal a w
  | c :: l, a, w => c.wp P (Exit.then (wpL P Q l) Q) a w
theorem wp_tops {P : Program} {Q : Exit → Act → World → Prop} : ∀ (c : Code) (l : List Code) (a : Act) (w : World), wpL P Q (tops c ++ l) a w → c.wp P (Exit.then (wpL P Q l) Q) a w
  | .seq x y, l, a, w, h => by
    rw [tops, List.append_assoc] at h
    refine wp_seq (wp_mono (wp_tops x (tops y ++ l) a w h) ?_)
    intro e a w hq
    cases e with
    | normal => exact wp_tops y l a w hq
    | _ => exact hq
  | .skip, l, a, w, h => h
  | .region .., l, a, w, h => h
  | .cond .., l, a, w, h => h
  | .block .., l, a, w, h => h
  | .loop .., l, a, w, h => h
  | .rangeFunc .., l, a, w, h => h
  | .exit _, l, a, w, h => h
  | .scope _, l, a, w, h => h
  | .label _, l, a, w, h => h
  | .goto _, l, a, w, h => h
  | .ret, l, a, w, h => h
  | .refuse _, l, a, w, h => h
/-- what nothing names is let go. -/
def DS.tidy (d : DS) : DS := match d with
  | ⟨⟨fn, nt, ctr, tmps, heap, res, asm⟩, en⟩ => ⟨⟨fn, nt, ctr, tmps, heap, res, asm⟩, en.filter fun x => res.any fun r => r.p == x.1⟩
theorem DSat.tidy {w0 w : World} {ρ : Env Pl} {d : DS} (D : DSat w0 ρ d w) : DSat w0 ρ d.tidy w :=
  D.sub (List.Sublist.refl _) (List.Sublist.refl _) fun e he => look_filter (fun k => d.st.res.any fun r => r.p == k) (by simpa using ⟨e, he, rfl⟩) d.en
noncomputable def dct (P : Program) (hk : List HK) (live : List Nat) (n : Nat) (c : Code) (d : DS) : Option (Ex × DS) := match dc P hk live n (DC.of c) d with
  | some (e, d) => some (e, d.tidy)
  | none => none
theorem dct_spec {P : Program} {hk : List HK} {live : List Nat} {n : Nat} {c : Code} {d d' : DS} {e : Ex} (h : dct P hk live n c d = some (e, d')) : ∃ d1, dc P hk live n (DC.of c) d = some (e, d1) ∧ d' = d1.tidy := by
  unfold dct at h
  split at h
  · rename_i e1 d1 h1
    simp only [Option.some.injEq, Prod.mk.injEq] at h
    exact ⟨d1, by rw [h1, h.1], h.2.symm⟩
  · cases h
/-- a run, part by part: from state to state. -/
inductive Runs (P : Program) (hk : List HK) (live : List Nat) : List Code → DS → Ex → DS → Prop where
  | done (d : DS) : Runs P hk live [] d .normal d
  | next {c : Code} {l : List Code} {d d1 d2 : DS} {e : Ex} (n : Nat) (h : dct P hk live n c d = some (.normal, d1)) (r : Runs P hk live l d1 e d2) : Runs P hk live (c :: l) d e d2
  | stop {c : Code} {l : List Code} {d d1 : DS} {e : Ex} (n : Nat) (he : e ≠ .normal) (h : dct P hk live n c d = some (e, d1)) : Runs P hk live (c :: l) d e d1
theorem Runs.sound {P : Program} {hk : List HK} (hOK : HookOK P hk) {live : List Nat} {w0 : World} {l : List Code} {d d' : DS} {e : Ex} (h : Runs P hk live l d e d') :
    ∀ (ρ : Env Pl) (a : Act) (w : World) (Q : Exit → Act → World → Prop), DSat w0 ρ d w → TSat ρ d.st a → (∀ ρ' a' w', Step w0 ρ d ρ' d' w' → TSat ρ' d'.st a' → Q e.up a' w') → wpL P Q l a w := by
  induction h with
  | done d => intro ρ a w Q D T hK; exact hK ρ a w (Step.refl D) T
  | next n h r ih =>
    intro ρ a w Q D T hK
    obtain ⟨d1, hd, rfl⟩ := dct_spec h
    refine (sndD hOK w0 n).dc live _ _ _ .normal ρ a w _ hd D T fun ρ' a' w' st T' => ?_
    have st : Step w0 ρ _ ρ' d1.tidy w' := ⟨st.ext, st.ctr, st.sat.tidy⟩
    exact ih ρ' a' w' Q st.sat ⟨T'.size, T'.defers, T'.tmps, T'.asm⟩ fun ρ'' a'' w'' st' T'' => hK ρ'' a'' w'' (st.trans st') T''
  | stop n he h =>
    rename_i e'
    intro ρ a w Q D T hK
    obtain ⟨d1, hd, rfl⟩ := dct_spec h
    refine (sndD hOK w0 n).dc live _ _ _ e' ρ a w _ hd D T fun ρ' a' w' st T' => ?_
    have st : Step w0 ρ _ ρ' d1.tidy w' := ⟨st.ext, st.ctr, st.sat.tidy⟩
    have T' : TSat ρ' d1.tidy.st a' := ⟨T'.size, T'.defers, T'.tmps, T'.asm⟩
    cases e' with
    | normal => exact absurd rfl he
    | exit i => exact hK ρ' a' w' st T'
    | ret => exact hK ρ' a' w' st T'
/-- **A function without arguments, by its run in parts.** -/
theorem calls_of_runs {P : Program} {hk : List HK} (hOK : HookOK P hk) {f : Nat} {fn : Func} {c : Code} (hf : P.funcs[f]? = some fn) (hc : fn.body = some c) {live : List Nat} {e : Ex} {d : DS}
    (h : Runs P hk live (tops c) ⟨⟨f, fn.ntmps, 0, [], [], [], []⟩, []⟩ e d) (he : ∀ i, e ≠ .exit i) {vs : List SV} (hr : resX P d.st fn.results.toList = some vs) (w : World) :
    Calls P f #[] w fun e w' => ∃ ρ : Env Pl, e = .returned (SV.den ρ (oneX vs)) ∧ Fr (fun _ => False) w w' := by
  have h0 : DSat w out0 ⟨⟨f, fn.ntmps, 0, [], [], [], []⟩, []⟩ w := ⟨(start_sat w).H, ⟨fun b hb => (by cases hb), fun b hb => (by cases hb), fun b hb => (by cases hb), fun b hb => (by cases hb)⟩, rfl, fun b hb => (by cases hb)⟩
  have T0 : TSat out0 (⟨⟨f, fn.ntmps, 0, [], [], [], []⟩, []⟩ : DS).st { tmps := (SV.dens out0 []).toArray ++ Array.replicate (fn.ntmps - (SV.dens out0 []).toArray.size) undef, defers := [] } := by
    have := enter_tsat (ρ := out0) (st := DS.start.st) (fun x hx => (by cases hx)) [] f fn.ntmps
    refine ⟨?_, rfl, fun t v hv => (by cases hv), fun x hx => (by cases hx)⟩
    have := this.size
    simp only [List.length_nil, Nat.sub_zero, Nat.zero_add] at this
    exact this
  refine calls_of_wp (args := (SV.dens out0 []).toArray) hf hc (wp_mono (wp_tops (Q := fun e a' w' => match e with
    | .normal | .ret => a'.defers = [] ∧ ∃ u, (results fn a'.tmps).run P w' = .ok u w' ∧ ∃ ρ : Env Pl, Ending.returned u = .returned (SV.den ρ (oneX vs)) ∧ Fr (fun _ => False) w w'
    | _ => False) c [] _ w ?_) ?_)
  · rw [List.append_nil]
    refine h.sound hOK out0 _ w _ h0 T0 fun ρ' a' w' st T' => ?_
    have fin : a'.defers = [] ∧ ∃ u, (results fn a'.tmps).run P w' = .ok u w' ∧ ∃ ρ : Env Pl, Ending.returned u = .returned (SV.den ρ (oneX vs)) ∧ Fr (fun _ => False) w w' := by
      refine ⟨T'.defers, SV.den ρ' (oneX vs), ?_, ρ', rfl, st.sat.H.frame⟩
      have := results_run (X := ⟨⟨P, [], [], []⟩, PI, F0, w, [], [], fun _ _ _ _ => True⟩) T' st.sat.H hr
      simp only [results_rv, Array.mapM_eq_mapM_toList, Sem.run_bind, Sem.run_map, this, Result.andThen_ok, Sem.run_pure]
      rw [one_den]
    cases e with
    | normal => exact fin
    | exit i => exact absurd rfl (he i)
    | ret => exact fin
  · intro e a' w' hq
    cases e <;> first
      | exact hq
      | exact False.elim hq
end Go.Sx

