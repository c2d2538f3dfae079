/-
The abstract machine: its values, its code, what a run of it computes.
-/
import GoSem.Core.Code
import GoSem.Core.View

set_option linter.unusedVariables false
set_option linter.unusedSimpArgs false
namespace Go.Wm

/-- Abstract values: what the machine's values are, told without addresses. -/
inductive AV where
  | int (k : IntKind) (n : Int)
  | bool (b : Bool)
  | str (s : List UInt8)
  | any | flt | cpx
  | nilp | nilf | nili | nilm
  | nils (t e : Nat)
  | zs (t e : Nat)
  | agg (cs : List AV)
  | tup (vs : List AV)
  | ifc (t : Nat) (x : AV)
  | imm (e : Nat) (rows : List (List AV))
  | own (e b ver lo n : Nat) (full : Bool)
  | vsl (b ver off e n : Nat)
  | ptr (b ver off : Nat)
  | eptr (b ver i k : Nat)
  | iptr (cs : List AV) (k : Nat)
  | fn (f : Nat) (first cap : List AV)
  | yld (b ver : Nat)
  | map (b ver : Nat)
  | itr (b ver : Nat)
  | new (t e : Nat) (rows : List (List AV))
  | nbox (t : Nat) (cs : List AV)
  | nmap (es : List (Int × AV))
  deriving Inhabited

inductive Opd where
  | t (i : Nat)
  | c (x : AV)
  deriving Inhabited

inductive Iop where
  | mv
  | pick
  | alloc (s t : Nat) (zero : List AV)
  | box (s t : Nat)
  | build (zero : List AV) (parts : List (Nat × Nat))
  | bslice (s t e : Nat) (zero : List AV) (n : Nat) (parts : List Nat)
  | load (n : Option Nat)
  | store (n : Nat)
  | nilchk
  | bin (op : BinOp) (kd : Nat)
  | eqs (neg : Bool) (kds : List Nat)
  | bnot
  | conv (k : IntKind)
  | cflt
  | ccpx
  | tostr
  | arrp (n : Nat)
  | mkifc (t : Nat)
  | mkfn (f nf : Nat)
  | mkmap (s : Nat)
  | mapset
  | look (zero : AV) (ok : Bool)
  | slc (t e : Nat) (hl hh hm : Bool)
  | slcs (hl hh : Bool)
  | slca (e n : Nat) (hl hh hm : Bool)
  | fld (off : Nat) (n : Option Nat)
  | fadr (off : Nat)
  | iadr (e : Nat)
  | iadra (e len : Nat)
  | idx (len e : Nat) (n : Option Nat)
  | idxs
  | srange (s : Nat)
  | next
  | tass (t : Nat) (zero : AV) (ok : Bool)
  | extr (i : Nat)
  | len
  | lens
  | min2
  | max2
  | mkslice (s t e bytes : Nat) (zero : List AV)
  | app (s t e bytes : Nat)
  | copy (e : Nat)
  | clear (zero : List AV)
  | call (f : Nat) (sites : List Nat) (md : Nat)
  | callv (sites : List Nat) (md : Nat)
  | defer
  | panic
  | recover
  deriving Inhabited

structure IOper where
  dst : Option Nat
  op : Iop
  xs : List Opd
  guard : Option (Nat × Bool) := none
  deriving Inhabited

inductive IC where
  | skip
  | reg (ops : List IOper)
  | regD (ops : List IOper) (idx : List Nat) (sp : Option (Bool × Nat × Nat)) (pairs : List (Nat × Nat))
  | kpre (ks : List Nat) (a : IC)
  | kpost (a : IC) (ks : List Nat)
  | seq (a b : IC)
  | cond (c : Opd) (a b : IC)
  | block (id : Nat) (a : IC)
  | loop (a : IC)
  | exit (id : Nat)
  | scope (a rest : IC) (l : Nat)
  | scope0 (a : IC)
  | label (l : Nat)
  | goto (l : Nat)
  | ret
  | rangeF (s : Nat) (f : Opd) (params : List Nat) (assign body : IC)
  deriving Inhabited

inductive IRes where
  | t (i : Nat)
  | cell (i : Nat) (n : Option Nat)
  deriving Inhabited

structure IFn where
  ns : Nat
  nt : Nat
  body : IC
  res : List IRes
  deriving Inhabited

abbrev Env := List (Nat × AV)

inductive Ex where
  | nrm
  | exit (id : Nat)
  | goto (l : Nat)
  | ret
  | pan (x : AV)
  deriving Inhabited

/-- Blocks of the call's own. -/
inductive Blk where
  | dead (ver : Nat)
  | var (ver t : Nat) (cs : List AV)
  | row (ver t e : Nat) (rows : List (List AV)) (frz : Bool)
  | map (ver : Nat) (es : List (Int × AV))
  | iter (ver : Nat) (s : List UInt8) (pos : Nat)
  | loop (ver : Nat) (base lev : Nat) (env : Env) (params : List Nat) (assign body : IC) (st : Nat) (jump : Option Ex)
  deriving Inhabited

abbrev Sto := List Blk

def Blk.ver : Blk → Nat
  | .dead v | .var v _ _ | .row v _ _ _ _ | .map v _ | .iter v _ _ | .loop v _ _ _ _ _ _ _ _ => v

def Sto.ver (S : Sto) (b : Nat) : Nat := match S[b]? with | some x => x.ver | none => 0

/-- what kind of block, and how many cells a row of it has; a dead one is of none -/
def Blk.sig : Blk → Option (Nat × Nat)
  | .dead _ => none
  | .var _ _ _ => some (0, 0)
  | .row _ _ e _ _ => some (1, e)
  | .map _ _ => some (2, 0)
  | .iter _ _ _ => some (3, 0)
  | .loop _ _ _ _ _ _ _ _ _ => some (4, 0)
def Sto.sig (S : Sto) (b : Nat) : Option (Nat × Nat) := match S[b]? with | some x => x.sig | none => none

/-- does a value name a block as it is now? -/
def liveB (S : Sto) : AV → Bool
  | .own e b ver _ _ _ => S.ver b == ver && S.sig b == some (1, e)
  | .vsl b ver _ _ _ | .ptr b ver _ => S.ver b == ver && S.sig b == some (0, 0)
  | .eptr b ver _ _ => S.ver b == ver && (match S.sig b with | some (1, _) => true | _ => false)
  | .map b ver => S.ver b == ver && S.sig b == some (2, 0)
  | .itr b ver => S.ver b == ver && S.sig b == some (3, 0)
  | .yld b ver => S.ver b == ver && S.sig b == some (4, 0)
  | _ => true

def Env.get (env : Env) (t : Nat) : AV := (env.lookup t).getD .any
def Env.put (env : Env) (d : Option Nat) (x : AV) : Env := match d with | some t => (t, x) :: env | none => env
def Env.keep (env : Env) (ks : List Nat) : Env := ks.map fun t => (t, env.get t)
def Opd.get (env : Env) : Opd → AV
  | .t i => env.get i
  | .c x => x

inductive Out where
  | ret (x : AV)
  | pan (x : AV)
  deriving Inhabited

/-- a value's cells, if it is one that may stand in memory -/
def AV.flat : AV → Option (List AV)
  | .agg cs => some cs
  | .any | .tup _ | .new _ _ _ | .nbox _ _ | .nmap _ => none
  | x => some [x]

/-! ### slices and pointers -/

def u8 (b : UInt8) : AV := .int .u8 b.toNat

/-- the rows that a slice reads as -/
def rowsOf (S : Sto) : AV → Option (List (List AV))
  | .nils _ _ => some []
  | .zs _ _ => some []
  | .imm _ rows => some rows
  | .own e b ver lo n _ =>
    match S[b]? with
    | some (.row v _ e' rows _) => if v = ver ∧ e = e' ∧ lo + n ≤ rows.length then some ((rows.drop lo).take n) else none
    | _ => none
  | .str s => some (s.map fun b => [u8 b])
  | _ => none

def vslRows (cs : List AV) (off e : Nat) : Nat → List (List AV)
  | 0 => []
  | n + 1 => (cs.drop off).take e :: vslRows cs (off + e) e n

/-- may its rows stand beside rows of so many cells? -/
def eszB (e : Nat) : AV → Bool
  | .imm e' _ | .own e' _ _ _ _ _ | .vsl _ _ _ e' _ => e' == e
  | .str _ => e == 1
  | .nils _ _ | .zs _ _ => true
  | _ => false
def AV.scalar : AV → Bool
  | .int _ _ | .bool _ | .str _ => true
  | _ => false

/-- as rowsOf, and slices of an array variable's plain cells -/
def rowsOf' (S : Sto) : AV → Option (List (List AV))
  | .vsl b ver off e n =>
    match S[b]? with
    | some (.var v _ cs) => if v = ver ∧ off + n * e ≤ cs.length ∧ ((cs.drop off).take (n * e)).all AV.scalar then some (vslRows cs off e n) else none
    | _ => none
  | x => rowsOf S x

def lenOf : AV → Option Nat
  | .nils _ _ => some 0
  | .zs _ _ => some 0
  | .imm _ rows => some rows.length
  | .own _ _ _ _ n _ => some n
  | .vsl _ _ _ _ n => some n
  | _ => none

/-- cells from a pointer's place on -/
def rdCells (S : Sto) : AV → Option (List AV)
  | .ptr b ver off => match S[b]? with
    | some (.var v _ cs) => if v = ver then some (cs.drop off) else none
    | _ => none
  | .eptr b ver i k => match S[b]? with
    | some (.row v _ _ rows _) => if v = ver then (rows[i]?).map (·.drop k) else none
    | _ => none
  | .iptr cs k => some (cs.drop k)
  | _ => none

def putAt (cs : List AV) (off : Nat) (xs : List AV) : List AV := cs.take off ++ xs ++ cs.drop (off + xs.length)

/-- a cell's value, as a row of a slice may hold it: slices of the call's own are frozen -/
def pure1 (S : Sto) : AV → Option (AV × Sto)
  | .own e b ver lo n f =>
    match S[b]?, rowsOf S (.own e b ver lo n f) with
    | some (.row v t e' rows _), some rs => some (.imm e rs, S.set b (.row v t e' rows true))
    | _, _ => none
  | .nils _ e => if 0 < e then some (.imm e [], S) else none
  | .zs _ e => if 0 < e then some (.imm e [], S) else none
  | x => match x with
    | .int _ _ | .bool _ | .str _ | .any | .flt | .cpx | .nilp | .nilf | .nili | .nilm | .imm _ _ => some (x, S)
    | .fn f [] [] => some (.fn f [] [], S)
    | _ => none

def pureL (S : Sto) : List AV → Option (List AV × Sto)
  | [] => some ([], S)
  | x :: xs => match pure1 S x with
    | some (y, S1) => match pureL S1 xs with
      | some (ys, S2) => some (y :: ys, S2)
      | none => none
    | none => none

def wrCells (S : Sto) (p : AV) (xs : List AV) : Option Sto :=
  match p with
  | .ptr b ver off => match S[b]? with
    | some (.var v t cs) => if v = ver ∧ off + xs.length ≤ cs.length then some (S.set b (.var v t (putAt cs off xs))) else none
    | _ => none
  | .eptr b ver i k => match pureL S xs with
    | some (ys, S1) => match S1[b]? with
      | some (.row v t e rows false) => match rows[i]? with
        | some r => if v = ver ∧ k + ys.length ≤ r.length then some (S1.set b (.row v t e (rows.set i (putAt r k ys)) false)) else none
        | none => none
      | _ => none
    | none => none
  | _ => none

/-! ### the operations -/

abbrev R := Option (Out × Sto)

def opMv : List AV → Sto → R
  | [x], S => some (.ret x, S)
  | _, _ => none
def opPick : List AV → Sto → R
  | [.bool c, a, b], S => some (.ret (if c then a else b), S)
  | _, _ => none
def opAlloc (b t : Nat) (zero : List AV) (S : Sto) : R :=
  if b < S.length then some (.ret (.ptr b (S.ver b + 1) 0), S.set b (.var (S.ver b + 1) t zero)) else none
def opBox (b t : Nat) : List AV → Sto → R
  | [x], S => match x.flat with
    | some cs => if b < S.length then some (.ret (.ptr b (S.ver b + 1) 0), S.set b (.var (S.ver b + 1) t cs)) else none
    | none => none
  | _, _ => none
def fillE : List AV → List (Nat × Nat) → List AV → Option (List AV)
  | cs, [], [] => some cs
  | cs, (off, n) :: ps, x :: xs => match x.flat with
    | some ys => if ys.length = n ∧ off + n ≤ cs.length then fillE (putAt cs off ys) ps xs else none
    | none => none
  | _, _, _ => none
def opBuild (zero : List AV) (parts : List (Nat × Nat)) (xs : List AV) (S : Sto) : R :=
  match fillE zero parts xs with
  | some cs => some (.ret (.agg cs), S)
  | none => none
def fillR (e : Nat) : List (List AV) → Sto → List Nat → List AV → Option (List (List AV) × Sto)
  | rows, S, [], [] => some (rows, S)
  | rows, S, i :: is, x :: xs =>
    match x.flat with
    | some cs => match pureL S cs with
      | some (ys, S1) => if ys.length = e ∧ i < rows.length then fillR e (rows.set i ys) S1 is xs else none
      | none => none
    | none => none
  | _, _, _, _ => none
def opBslice (b t e : Nat) (zero : List AV) (n : Nat) (parts : List Nat) (xs : List AV) (S : Sto) : R :=
  match fillR e (List.replicate n zero) S parts xs with
  | some (rows, S1) => if b < S1.length then some (.ret (.own e b (S1.ver b + 1) 0 n true), S1.set b (.row (S1.ver b + 1) t e rows false)) else none
  | none => none
def opLoad (n : Option Nat) : List AV → Sto → R
  | [p], S => match rdCells S p, n with
    | some (c :: _), none => some (.ret c, S)
    | some cs, some k => if k ≤ cs.length then some (.ret (.agg (cs.take k)), S) else none
    | _, _ => none
  | _, _ => none
def opStore (n : Nat) : List AV → Sto → R
  | [p, x], S => match x.flat with
    | some cs => if cs.length = n then (match wrCells S p cs with
      | some S1 => some (.ret .any, S1)
      | none => none) else none
    | none => none
  | _, _ => none
def opNilchk : List AV → Sto → R
  | [x], S => if liveB S x then (match x with
    | .ptr _ _ _ | .eptr _ _ _ _ | .iptr _ _ => some (.ret x, S)
    | .fn _ _ _ => some (.ret x, S)
    | _ => none) else none
  | _, _ => none

def binI (op : BinOp) (k : IntKind) (a b : Int) : Option AV :=
  match op with
  | .add => some (.int k (k.wrap (a + b)))
  | .sub => some (.int k (k.wrap (a - b)))
  | .mul => some (.int k (k.wrap (a * b)))
  | .quo => if b = 0 then none else some (.int k (k.wrap (a.tdiv b)))
  | .rem => if b = 0 then none else some (.int k (a.tmod b))
  | .and => some (.int k (k.wrap (BitVec.ofInt k.bits a &&& BitVec.ofInt k.bits b).toNat))
  | .or => some (.int k (k.wrap (BitVec.ofInt k.bits a ||| BitVec.ofInt k.bits b).toNat))
  | .xor => some (.int k (k.wrap (BitVec.ofInt k.bits a ^^^ BitVec.ofInt k.bits b).toNat))
  | .andNot => some (.int k (k.wrap (BitVec.ofInt k.bits a &&& ~~~ BitVec.ofInt k.bits b).toNat))
  | .eql => some (.bool (a == b))
  | .neq => some (.bool (a != b))
  | .lss => some (.bool (a < b))
  | .leq => some (.bool (a ≤ b))
  | .gtr => some (.bool (a > b))
  | .geq => some (.bool (a ≥ b))
  | _ => none
def shI (op : BinOp) (k : IntKind) (a b : Int) : Option AV :=
  if b < 0 then none else
  match op with
  | .shl => some (.int k (k.wrap (a * 2 ^ (min b.toNat k.bits))))
  | .shr => some (.int k (a.fdiv (2 ^ (min b.toNat k.bits))))
  | _ => none
/-- a pointer, a function, an interface value, a map, a slice and their nil; by the type's kind -/
def eqNil : Nat → AV → AV → Option Bool
  | 3, .nilp, .nilp => some true
  | 3, .ptr _ _ _, .nilp => some false
  | 3, .eptr _ _ _ _, .nilp => some false
  | 3, .iptr _ _, .nilp => some false
  | 4, .nilf, .nilf => some true
  | 4, .fn _ _ _, .nilf => some false
  | 4, .yld _ _, .nilf => some false
  | 5, .nili, .nili => some true
  | 5, .ifc _ _, .nili => some false
  | 6, .nilm, .nilm => some true
  | 6, .map _ _, .nilm => some false
  | 7, .nils _ _, .nils _ _ => some true
  | 7, .imm _ (_ :: _), .nils _ _ => some false
  | _, _, _ => none
def nilRes : BinOp → Option Bool → Option AV
  | .eql, some b => some (.bool b)
  | .neq, some b => some (.bool (!b))
  | _, _ => none
def binE (op : BinOp) (kd : Nat) (x y : AV) : Option AV :=
  match x, y with
  | .int k a, .int k' b => match op with
    | .shl | .shr => shI op k a b
    | _ => if k = k' then binI op k a b else none
  | .bool a, .bool b => if kd = 1 then (match op with
    | .eql => some (.bool (a == b))
    | .neq => some (.bool (a != b))
    | _ => none) else none
  | .str a, .str b => match op with
    | .eql => some (.bool (a == b))
    | .neq => some (.bool (a != b))
    | _ => none
  | x, y => nilRes op (eqNil kd x y)
def opBin (op : BinOp) (kd : Nat) : List AV → Sto → R
  | [x, y], S => if liveB S x then (match binE op kd x y with
    | some v => some (.ret v, S)
    | none => none) else none
  | _, _ => none
def eqCell : Nat → AV → AV → Option Bool
  | 0, .int k a, .int k' b => if k = k' then some (a == b) else none
  | 1, .bool a, .bool b => some (a == b)
  | 2, .str a, .str b => some (a == b)
  | _, _, _ => none
def eqCells : List Nat → List AV → List AV → Option Bool
  | [], [], [] => some true
  | k :: ks, x :: xs, y :: ys => match eqCell k x y, eqCells ks xs ys with
    | some a, some b => some (a && b)
    | _, _ => none
  | _, _, _ => none
def opEqs (neg : Bool) (kds : List Nat) : List AV → Sto → R
  | [.agg xs, .agg ys], S => match eqCells kds xs ys with
    | some b => some (.ret (.bool (if neg then !b else b)), S)
    | none => none
  | _, _ => none
def opBnot : List AV → Sto → R
  | [.bool b], S => some (.ret (.bool !b), S)
  | _, _ => none
def opConv (k : IntKind) : List AV → Sto → R
  | [.int _ n], S => some (.ret (.int k (k.wrap n)), S)
  | _, _ => none
def opCflt : List AV → Sto → R
  | [.int _ _], S => some (.ret .flt, S)
  | _, _ => none
def opCcpx : List AV → Sto → R
  | [.flt, .flt], S => some (.ret .cpx, S)
  | _, _ => none
def byteOf1 : List AV → Option UInt8
  | [.int .u8 n] => some (UInt8.ofNat n.toNat)
  | _ => none
def bytesOf : List (List AV) → Option (List UInt8)
  | [] => some []
  | r :: rs => match byteOf1 r, bytesOf rs with
    | some b, some bs => some (b :: bs)
    | _, _ => none
def opTostr : List AV → Sto → R
  | [.str _], _ => none
  | [x], S => match (if eszB 1 x then rowsOf' S x else none) with
    | some rows => match bytesOf rows with
      | some bs => some (.ret (.str bs), S)
      | none => none
    | none => none
  | _, _ => none
def opArrp (n : Nat) : List AV → Sto → R
  | [x], S => match pure1 S x with
    | some (.imm _ rows, S1) => if n ≤ rows.length ∧ 0 < n then some (.ret (.iptr rows.flatten 0), S1) else none
    | _ => none
  | _, _ => none
def opMkifc (t : Nat) : List AV → Sto → R
  | [x], S => some (.ret (.ifc t x), S)
  | _, _ => none
def opMkmap (b : Nat) (S : Sto) : R :=
  if b < S.length then some (.ret (.map b (S.ver b + 1)), S.set b (.map (S.ver b + 1) [])) else none
def mapPut (es : List (Int × AV)) (k : Int) (x : AV) : List (Int × AV) :=
  match es with
  | [] => [(k, x)]
  | (j, y) :: es => if j = k then (j, x) :: es else (j, y) :: mapPut es k x
def pureM (S : Sto) : AV → Option (AV × Sto)
  | .agg cs => match pureL S cs with
    | some (ys, S1) => some (.agg ys, S1)
    | none => none
  | .any => none
  | x => pure1 S x
def opMapset : List AV → Sto → R
  | [.map b ver, .int .i64 k, x], S => match pureM S x with
    | some (y, S1) => match S1[b]? with
      | some (.map v es) => if v = ver then some (.ret .any, S1.set b (.map v (mapPut es k y))) else none
      | _ => none
    | none => none
  | _, _ => none
def opLook (zero : AV) (ok : Bool) : List AV → Sto → R
  | [m, .int .i64 k], S =>
    let found (es : List (Int × AV)) : R := match es.lookup k with
      | some x => some (.ret (if ok then .tup [x, .bool true] else x), S)
      | none => some (.ret (if ok then .tup [zero, .bool false] else zero), S)
    match m with
    | .map b ver => match S[b]? with
      | some (.map v es) => if v = ver then found es else none
      | _ => none
    | .nilm => found []
    | _ => none
  | _, _ => none

def toN : AV → Option Nat
  | .int _ n => if 0 ≤ n then some n.toNat else none
  | _ => none
/-- low, high, and whether the capacity is cut; bounds as they stand behind the operand -/
def bounds (n r : Nat) (hl hh hm : Bool) (xs : List AV) : Option (Nat × Nat × Option Nat) :=
  let lo : Option (Nat × List AV) := if hl then (match xs with | x :: r => (toN x).map (·, r) | [] => none) else some (0, xs)
  match lo with
  | none => none
  | some (l, xs) =>
    let hi : Option (Nat × List AV) := if hh then (match xs with | x :: r => (toN x).map (·, r) | [] => none) else some (n, xs)
    match hi with
    | none => none
    | some (h, xs) =>
      let mx : Option (Option Nat) := if hm then (match xs with | [x] => (toN x).map some | _ => none) else (match xs with | [] => some none | _ => none)
      match mx with
      | none => none
      | some none => if l ≤ h ∧ h ≤ r then some (l, h, none) else none
      | some (some m) => if l ≤ h ∧ h ≤ m ∧ m ≤ r then some (l, h, some m) else none
/-- how far a slice may be resliced, as far as is known -/
def roomOf (S : Sto) : AV → Option Nat
  | .own e b ver lo n true => match S[b]? with
    | some (.row v _ _ rows _) => if v = ver then some (max n rows.length) else none
    | _ => none
  | x => lenOf x
def opSlc (t e0 : Nat) (hl hh hm : Bool) : List AV → Sto → R
  | x :: bs, S => if liveB S x = false then none else match lenOf x, roomOf S x with
    | some n, some r => match bounds n r hl hh hm bs with
      | none => none
      | some (l, h, m) => match x with
        | .nils t e => some (.ret (.nils t e), S)
        | .zs t e => some (.ret (.zs t e), S)
        | .imm e rows => if e = e0 then (match m with
          | some 0 => some (.ret (.zs t e), S)
          | _ => some (.ret (.imm e ((rows.drop l).take (h - l))), S)) else none
        | .own e b ver lo _ f => if e = e0 then (match m with
          | some 0 => some (.ret (.zs t e), S)
          | some _ => some (.ret (.own e b ver (lo + l) (h - l) false), S)
          | none => some (.ret (.own e b ver (lo + l) (h - l) (f && l == 0)), S)) else none
        | _ => none
    | _, _ => none
  | _, _ => none
def opSlca (e n : Nat) (hl hh hm : Bool) : List AV → Sto → R
  | .ptr b ver off :: bs, S => if liveB S (.ptr b ver off) then (match bounds n n hl hh hm bs with
    | some (l, h, none) => if l < n then some (.ret (.vsl b ver (off + l * e) e (h - l)), S) else none
    | _ => none) else none
  | _, _ => none
def opSlcs (hl hh : Bool) : List AV → Sto → R
  | .str s :: bs, S => match bounds s.length s.length hl hh false bs with
    | some (l, h, _) => some (.ret (.str ((s.drop l).take (h - l))), S)
    | none => none
  | _, _ => none
def opFld (off : Nat) (n : Option Nat) : List AV → Sto → R
  | [.agg cs], S => match n with
    | none => match cs[off]? with
      | some c => some (.ret c, S)
      | none => none
    | some k => if off + k ≤ cs.length then some (.ret (.agg ((cs.drop off).take k)), S) else none
  | _, _ => none
def padd (k : Nat) : AV → Option AV
  | .ptr b ver off => some (.ptr b ver (off + k))
  | .eptr b ver i j => some (.eptr b ver i (j + k))
  | .iptr cs j => some (.iptr cs (j + k))
  | _ => none
def opFadr (off : Nat) : List AV → Sto → R
  | [p], S => if liveB S p then (match padd off p with
    | some q => some (.ret q, S)
    | none => none) else none
  | _, _ => none
def opIadr (e : Nat) : List AV → Sto → R
  | [x, .int _ i], S => if 0 ≤ i then (match x with
    | .imm e' rows => match rows[i.toNat]? with
      | some r => if e = e' then some (.ret (.iptr r 0), S) else none
      | none => none
    | .own e' b ver lo n f => if i.toNat < n ∧ e = e' ∧ liveB S (.own e' b ver lo n f) = true then some (.ret (.eptr b ver (lo + i.toNat) 0), S) else none
    | _ => none) else none
  | _, _ => none
def opIadra (e len : Nat) : List AV → Sto → R
  | [p, .int _ i], S => if 0 ≤ i ∧ i.toNat < len ∧ liveB S p = true then (match padd (i.toNat * e) p with
    | some q => some (.ret q, S)
    | none => none) else none
  | _, _ => none
def opIdx (len e : Nat) (n : Option Nat) : List AV → Sto → R
  | [.agg cs, .int _ i], S => if 0 ≤ i ∧ i.toNat < len then opFld (i.toNat * e) n [.agg cs] S else none
  | _, _ => none
def opIdxs : List AV → Sto → R
  | [.str s, .int _ i], S => if 0 ≤ i then (match s[i.toNat]? with
    | some b => some (.ret (u8 b), S)
    | none => none) else none
  | _, _ => none
def opSrange (b : Nat) : List AV → Sto → R
  | [.str s], S => if b < S.length then some (.ret (.itr b (S.ver b + 1)), S.set b (.iter (S.ver b + 1) s 0)) else none
  | _, _ => none
/-- one step over a string of ASCII -/
def opNext : List AV → Sto → R
  | [.itr b ver], S => match S[b]? with
    | some (.iter v s pos) => if v = ver then (match s[pos]? with
      | some c => if c < 128 then some (.ret (.tup [.bool true, .int .i64 pos, .int .i32 c.toNat]), S.set b (.iter v s (pos + 1))) else none
      | none => some (.ret (.tup [.bool false]), S)) else none
    | _ => none
  | _, _ => none
def opTass (t : Nat) (zero : AV) (ok : Bool) : List AV → Sto → R
  | [.ifc u x], S => if t = u then some (.ret (if ok then .tup [x, .bool true] else x), S)
    else if ok then some (.ret (.tup [zero, .bool false]), S) else none
  | [.nili], S => if ok then some (.ret (.tup [zero, .bool false]), S) else none
  | _, _ => none
def opExtr (i : Nat) : List AV → Sto → R
  | [.tup vs], S => match vs[i]? with
    | some v => some (.ret v, S)
    | none => none
  | _, _ => none
def opLen : List AV → Sto → R
  | [x], S => if liveB S x then (match lenOf x with
    | some n => some (.ret (.int .i64 n), S)
    | none => none) else none
  | _, _ => none
def opLens : List AV → Sto → R
  | [.str s], S => some (.ret (.int .i64 s.length), S)
  | _, _ => none
def opMin2 : List AV → Sto → R
  | [.int k a, .int _ b], S => some (.ret (.int k (if b < a then b else a)), S)
  | _, _ => none
def opMax2 : List AV → Sto → R
  | [.int k a, .int _ b], S => some (.ret (.int k (if b > a then b else a)), S)
  | _, _ => none
def roomB : Nat := 140737488355328
def opMkslice (b t e bytes : Nat) (zero : List AV) : List AV → Sto → R
  | [.int _ n, .int _ c], S => if n = c ∧ 0 ≤ n ∧ n.toNat * bytes ≤ roomB ∧ n.toNat ≤ roomB ∧ b < S.length then
      some (.ret (.own e b (S.ver b + 1) 0 n.toNat true), S.set b (.row (S.ver b + 1) t e (List.replicate n.toNat zero) false)) else none
  | _, _ => none
def appNil (b t e bytes : Nat) (x : AV) (ys : List (List AV)) (S : Sto) : R :=
  if ys = [] then some (.ret x, S)
  else if b < S.length ∧ ys.length * bytes ≤ roomB ∧ ys.length ≤ roomB then
    some (.ret (.own e b (S.ver b + 1) 0 ys.length true), S.set b (.row (S.ver b + 1) t e ys false)) else none
def opApp (b t e bytes : Nat) : List AV → Sto → R
  | [x, y], S => match (if eszB e y then rowsOf' S y else none) with
    | none => none
    | some ys => match x with
      | .nils t' e' => if t = t' ∧ e = e' then appNil b t e bytes x ys S else none
      | .zs t' e' => if t = t' ∧ e = e' then appNil b t e bytes x ys S else none
      | .own e' b' ver 0 n true => match S[b']? with
        | some (.row v t' e'' rows false) =>
          if v = ver ∧ e = e' ∧ e = e'' ∧ t = t' ∧ n ≤ rows.length ∧ (n + ys.length) * bytes ≤ roomB ∧ n + ys.length ≤ roomB then
            (if n + ys.length ≤ rows.length then some (.ret (.own e b' ver 0 (n + ys.length) true), S.set b' (.row ver t e (rows.take n ++ ys ++ rows.drop (n + ys.length)) false))
            else some (.ret (.own e b' (ver + 1) 0 (n + ys.length) true), S.set b' (.row (ver + 1) t e (rows.take n ++ ys) false))) else none
        | _ => none
      | _ => none
  | _, _ => none
/-- copy into a whole row of the call's own -/
def opCopy (e : Nat) : List AV → Sto → R
  | [.own e' b ver 0 n _, y], S => match (if eszB e y then rowsOf' S y else none), S[b]? with
    | some ys, some (.row v t e'' rows false) =>
      if v = ver ∧ e = e' ∧ e = e'' ∧ n ≤ rows.length then
        some (.ret (.int .i64 (min ys.length n)), S.set b (.row v t e (ys.take n ++ rows.drop (min ys.length n)) false)) else none
    | _, _ => none
  | _, _ => none
def opClear (zero : List AV) : List AV → Sto → R
  | [.own e' b ver lo n _], S => match S[b]? with
    | some (.row v t e rows false) => if v = ver ∧ lo + n ≤ rows.length ∧ e' = zero.length then
        some (.ret .any, S.set b (.row v t e (rows.take lo ++ List.replicate n zero ++ rows.drop (lo + n)) false)) else none
    | _ => none
  | _, _ => none

/-! ### calls -/

mutual
def isPure : AV → Bool
  | .int _ _ | .bool _ | .str _ | .flt | .cpx | .nils _ _ | .zs _ _ | .nilp | .nilf | .nili | .nilm | .imm _ _ | .iptr _ _ => true
  | .agg cs => isPureL cs
  | .fn _ a c => isPureL a && isPureL c
  | .ifc _ x => isPure x
  | _ => false
def isPureL : List AV → Bool
  | [] => true
  | x :: xs => isPure x && isPureL xs
end

/-- an argument of a call that only reads it: rows of the caller's own are handed in to be read -/
def lend1 (S : Sto) : AV → Option AV
  | .own e b ver lo n f => match rowsOf S (.own e b ver lo n f) with
    | some rs => some (.imm e rs)
    | none => none
  | .vsl b ver off e n => match rowsOf' S (.vsl b ver off e n) with
    | some rs => some (.imm e rs)
    | none => none
  | .nils t e => some (if 0 < e then .imm e [] else .nils t e)
  | .zs t e => some (if 0 < e then .imm e [] else .zs t e)
  | x => some x
def lendL (S : Sto) : List AV → Option (List AV)
  | [] => some []
  | x :: xs => match lend1 S x, lendL S xs with
    | some y, some ys => some (y :: ys)
    | _, _ => none
def lend (S : Sto) : AV → Option AV
  | .agg cs => match lendL S cs with
    | some ys => some (.agg ys)
    | none => none
  | x => lend1 S x
def lendA (S : Sto) : List AV → Option (List AV)
  | [] => some []
  | x :: xs => match lend S x, lendA S xs with
    | some y, some ys => some (y :: ys)
    | _, _ => none
def lendable1 : AV → Bool
  | .own _ _ _ _ _ _ | .vsl _ _ _ _ _ => true
  | x => isPure x
def lendable : AV → Bool
  | .agg cs => cs.all lendable1
  | x => lendable1 x

def frz1 (S : Sto) : AV → Sto
  | .own _ b _ _ _ _ => match S[b]? with
    | some (.row v t e rows _) => S.set b (.row v t e rows true)
    | _ => S
  | _ => S
def frzL (S : Sto) : List AV → Sto
  | [] => S
  | x :: xs => frzL (match x with | .agg cs => cs.foldl frz1 S | x => frz1 S x) xs

/-- over a list of values, a state handed on -/
def mapL {σ : Type} (f : AV → σ → Option (AV × σ)) : List AV → σ → Option (List AV × σ)
  | [], S => some ([], S)
  | x :: xs, S => match f x S with
    | some (y, S1) => match mapL f xs S1 with
      | some (ys, S2) => some (y :: ys, S2)
      | none => none
    | none => none

/-- what a call that only reads hands out: its own blocks leave with it, by value -/
def export1 : Nat → AV → Sto → Option (AV × Sto)
  | 0, _, _ => none
  | d + 1, x, S =>
    match x with
    | .nils t e => if 0 < e then some (.new t e [], S) else none
    | .zs t e => if 0 < e then some (.new t e [], S) else none
    | .own _ b _ lo n f =>
      match S[b]?, rowsOf S x with
      | some (.row v t e rows z), some rs =>
        if lo = 0 ∧ f = true ∧ z = false ∧ n = rows.length then some (.new t e rs, S.set b (.dead v))
        else some (.imm e rs, S.set b (.row v t e rows true))
      | _, _ => none
    | .ptr b ver off =>
      match S[b]? with
      | some (.var v t cs) => if v = ver ∧ off = 0 then (match mapL (export1 d) cs (S.set b (.dead v)) with
        | some (ys, S1) => some (.nbox t ys, S1)
        | none => none) else none
      | _ => none
    | .map b ver =>
      match S[b]? with
      | some (.map v es) => if v = ver then some (.nmap es, S.set b (.dead v)) else none
      | _ => none
    | .agg cs => match mapL (export1 d) cs S with
      | some (ys, S1) => some (.agg ys, S1)
      | none => none
    | .tup cs => match mapL (export1 d) cs S with
      | some (ys, S1) => some (.tup ys, S1)
      | none => none
    | .ifc t y => match export1 d y S with
      | some (z, S1) => some (.ifc t z, S1)
      | none => none
    | .fn f a c => match mapL (export1 d) a S with
      | some (a', S1) => match mapL (export1 d) c S1 with
        | some (c', S2) => some (.fn f a' c', S2)
        | none => none
      | none => none
    | .vsl _ _ _ _ _ | .eptr _ _ _ _ | .yld _ _ | .itr _ _ => none
    | .new _ _ _ | .nbox _ _ | .nmap _ => none
    | x => some (x, S)

/-- new blocks of a call's results get their places; the places that are left go on -/
def land1 : Nat → AV → Sto × List Nat → Option (AV × (Sto × List Nat))
  | 0, _, _ => none
  | d + 1, x, s =>
    match x with
    | .new t e rows => match s.2 with
      | b :: ps => if b < s.1.length then some (.own e b (s.1.ver b + 1) 0 rows.length true, (s.1.set b (.row (s.1.ver b + 1) t e rows false), ps)) else none
      | [] => none
    | .nbox t cs => match s.2 with
      | b :: ps => match mapL (land1 d) cs (s.1, ps) with
        | some (ys, s1) => if b < s1.1.length then some (.ptr b (s1.1.ver b + 1) 0, (s1.1.set b (.var (s1.1.ver b + 1) t ys), s1.2)) else none
        | none => none
      | [] => none
    | .nmap es => match s.2 with
      | b :: ps => if b < s.1.length then some (.map b (s.1.ver b + 1), (s.1.set b (.map (s.1.ver b + 1) es), ps)) else none
      | [] => none
    | .agg cs => match mapL (land1 d) cs s with
      | some (ys, s1) => some (.agg ys, s1)
      | none => none
    | .tup cs => match mapL (land1 d) cs s with
      | some (ys, s1) => some (.tup ys, s1)
      | none => none
    | .ifc t y => match land1 d y s with
      | some (z, s1) => some (.ifc t z, s1)
      | none => none
    | .fn f a c => match mapL (land1 d) a s with
      | some (a', s1) => match mapL (land1 d) c s1 with
        | some (c', s2) => some (.fn f a' c', s2)
        | none => none
      | none => none
    | x => some (x, s)

/-- behind a call that shares the store: blocks from base on that a value names move to places of the caller's -/
def move1 (base : Nat) : Nat → AV → Sto × List Nat → Option (AV × (Sto × List Nat))
  | 0, _, _ => none
  | d + 1, x, s =>
    match x with
    | .own e b ver lo n f =>
      if b < base then some (x, s) else
      match s.1[b]?, s.2 with
      | some (.row v t e' rows z), p :: ps =>
        if v = ver then (if p < base then some (.own e p (s.1.ver p + 1) lo n f, ((s.1.set p (.row (s.1.ver p + 1) t e' rows z)).set b (.dead v), ps)) else none)
        else some (.any, s)
      | _, _ => some (.any, s)
    | .ptr b ver off =>
      if b < base then some (x, s) else
      match s.1[b]?, s.2 with
      | some (.var v t cs), p :: ps =>
        if v = ver then (if p < base then
          (match mapL (move1 base d) cs (s.1.set b (.dead v), ps) with
          | some (ys, s1) => some (.ptr p (s1.1.ver p + 1) off, (s1.1.set p (.var (s1.1.ver p + 1) t ys), s1.2))
          | none => none) else none)
        else some (.any, s)
      | _, _ => some (.any, s)
    | .map b ver =>
      if b < base then some (x, s) else
      match s.1[b]?, s.2 with
      | some (.map v es), p :: ps =>
        if v = ver then (if p < base then some (.map p (s.1.ver p + 1), ((s.1.set p (.map (s.1.ver p + 1) es)).set b (.dead v), ps)) else none)
        else some (.any, s)
      | _, _ => some (.any, s)
    | .vsl b _ _ _ _ | .eptr b _ _ _ | .yld b _ | .itr b _ => if b < base then some (x, s) else some (.any, s)
    | .agg cs => match mapL (move1 base d) cs s with
      | some (ys, s1) => some (.agg ys, s1)
      | none => none
    | .tup cs => match mapL (move1 base d) cs s with
      | some (ys, s1) => some (.tup ys, s1)
      | none => none
    | .ifc t y => match move1 base d y s with
      | some (z, s1) => some (.ifc t z, s1)
      | none => none
    | .fn f a c => match mapL (move1 base d) a s with
      | some (a', s1) => match mapL (move1 base d) c s1 with
        | some (c', s2) => some (.fn f a' c', s2)
        | none => none
      | none => none
    | .new _ _ _ | .nbox _ _ | .nmap _ => none
    | x => some (x, s)

/-- and what the caller's variables name -/
def moveS (base : Nat) : Nat → Sto × List Nat → Option (Sto × List Nat)
  | 0, s => some s
  | i + 1, s => match moveS base i s with
    | some s1 => match s1.1[i]? with
      | some (.var v t cs) => match mapL (move1 base 6) cs s1 with
        | some (ys, s2) => if s2.1.ver i = v then some (s2.1.set i (.var v t ys), s2.2) else none
        | none => none
      | _ => some s1
    | none => none

/-- the blocks that a value names -/
def refs : AV → List Nat
  | .own _ b _ _ _ _ | .vsl b _ _ _ _ | .ptr b _ _ | .eptr b _ _ _ | .yld b _ | .map b _ | .itr b _ => [b]
  | _ => []
def refsV : AV → List Nat
  | .agg cs => cs.flatMap refs
  | .tup cs => cs.flatMap fun x => match x with | .agg ds => ds.flatMap refs | x => refs x
  | .fn _ a c => (a ++ c).flatMap refs
  | x => refs x
def refsB : Blk → List Nat
  | .var _ _ cs => cs.flatMap refsV
  | _ => []
/-- places that nothing names: from the front -/
def free (env : Env) (S : Sto) (base : Nat) (sites : List Nat) : List Nat :=
  let used := env.flatMap (fun p => refsV p.2) ++ S.flatMap refsB
  (sites.map (base + ·)).filter fun b => !used.contains b

/-- how calls are answered: with what a deferred call may recover, and whether it did -/
abbrev CallD := Option AV → AV → List AV → Sto → Option (Out × Bool × Sto)
/-- calls, and the functions that are told by a plain function of data -/
structure Cx where
  cd : CallD
  ext : Nat → Option (List AV → Option AV)

/-- a loop's environment lies below -/
def levOk (base : Nat) : Blk → Bool
  | .loop _ _ lev _ _ _ _ _ _ => decide (lev ≤ base)
  | _ => true
/-- behind a call that shares the store: its own blocks go, but for what is named still -/
def retire (base : Nat) (sites : Sto → List Nat) (o : Out) (S : Sto) : R :=
  if (S.take base).all (levOk base) then
  match o with
  | .ret v => match move1 base 8 v (S, sites S) with
    | some (v', s2) => match moveS base base s2 with
      | some s3 => some (.ret v', s3.1.take base)
      | none => none
    | none => none
  | .pan v => match move1 base 8 v (S, sites S) with
    | some (v', s2) => match moveS base base s2 with
      | some s3 => some (.pan v', s3.1.take base)
      | none => none
    | none => none
  else none

def extOf (cx : Cx) (fv : AV) (args : List AV) : Option (Option AV) :=
  match fv with
  | .fn f first cap => match cx.ext f with
    | some g => some (g (first ++ args ++ cap))
    | none => none
  | _ => none
/-- a call that is handed data alone -/
def callP (cx : Cx) (fv : AV) (args : List AV) : Option Out :=
  match extOf cx fv args with
  | some r => r.map .ret
  | none =>
  match cx.cd none fv args [] with
  | some (.ret v, _, S) => match export1 8 v S with
    | some (v', _) => some (.ret v')
    | none => none
  | some (.pan v, _, S) => match export1 8 v S with
    | some (v', _) => some (.pan v')
    | none => none
  | none => none

/-- plain data: nothing of memory in it -/
def AV.plain : Nat → AV → Bool
  | _, .int _ _ | _, .bool _ | _, .str _ | _, .any | _, .flt | _, .cpx | _, .nilp | _, .nilf | _, .nili | _, .nilm => true
  | d + 1, .agg cs | d + 1, .tup cs => cs.all (plain d)
  | d + 1, .ifc _ x => plain d x
  | _, _ => false
def isVsl : AV → Bool
  | .vsl _ _ _ _ _ => true
  | .agg cs => cs.any fun x => match x with | .vsl _ _ _ _ _ => true | _ => false
  | _ => false

/-- is a call handed data alone? -/
def pureCall (md : Nat) (fv : AV) (args : List AV) : Bool := decide (md < 2) && isPure fv && args.all lendable
def doCall (cx : Cx) (base : Nat) (env : Env) (fv : AV) (args : List AV) (sites : List Nat) (md : Nat) (S : Sto) : R :=
  if pureCall md fv args then
    match lendA S args with
    | some args' => (match callP cx fv args' with
      | some (.ret v) =>
        if md = 1 then
          (if args.any isVsl then none else
          match land1 8 v (frzL S args, if sites = [] then [] else free ((0, .tup args) :: env) [] base sites) with
          | some (v', s2) => some (.ret v', s2.1)
          | none => none)
        else (if AV.plain 8 v then some (.ret v, S) else none)
      | some (.pan x) => if AV.plain 8 x then some (.pan x, S) else none
      | none => none)
    | none => none
  else match cx.cd none fv args S with
    | some (o, _, S1) => retire S.length (fun S1 => free env (S1.take S.length) base sites) o S1
    | none => none

def evalOp (cx : Cx) (base : Nat) (env : Env) (op : Iop) (xs : List AV) (S : Sto) : R :=
  match op with
  | .mv => opMv xs S
  | .pick => opPick xs S
  | .alloc s t zero => opAlloc (base + s) t zero S
  | .box s t => opBox (base + s) t xs S
  | .build zero parts => opBuild zero parts xs S
  | .bslice s t e zero n parts => opBslice (base + s) t e zero n parts xs S
  | .load n => opLoad n xs S
  | .store n => opStore n xs S
  | .nilchk => opNilchk xs S
  | .bin op kd => opBin op kd xs S
  | .eqs neg kds => opEqs neg kds xs S
  | .bnot => opBnot xs S
  | .conv k => opConv k xs S
  | .cflt => opCflt xs S
  | .ccpx => opCcpx xs S
  | .tostr => opTostr xs S
  | .arrp n => opArrp n xs S
  | .mkifc t => opMkifc t xs S
  | .mkfn f nf => some (.ret (.fn f (xs.take nf) (xs.drop nf)), S)
  | .mkmap s => opMkmap (base + s) S
  | .mapset => opMapset xs S
  | .look zero ok => opLook zero ok xs S
  | .slc t e hl hh hm => opSlc t e hl hh hm xs S
  | .slcs hl hh => opSlcs hl hh xs S
  | .slca e n hl hh hm => opSlca e n hl hh hm xs S
  | .fld off n => opFld off n xs S
  | .fadr off => opFadr off xs S
  | .iadr e => opIadr e xs S
  | .iadra e len => opIadra e len xs S
  | .idx len e n => opIdx len e n xs S
  | .idxs => opIdxs xs S
  | .srange s => opSrange (base + s) xs S
  | .next => opNext xs S
  | .tass t zero ok => opTass t zero ok xs S
  | .extr i => opExtr i xs S
  | .len => opLen xs S
  | .lens => opLens xs S
  | .min2 => opMin2 xs S
  | .max2 => opMax2 xs S
  | .mkslice s t e bytes zero => opMkslice (base + s) t e bytes zero xs S
  | .app s t e bytes => opApp (base + s) t e bytes xs S
  | .copy e => opCopy e xs S
  | .clear zero => opClear zero xs S
  | .call f sites md => doCall cx base env (.fn f [] []) xs sites md S
  | .callv sites md => match xs with
    | fv :: args => doCall cx base env fv args sites md S
    | [] => none
  | .panic => match xs with
    | [.ifc t x] => some (.pan (.ifc t x), S)
    | _ => none
  | .defer | .recover => none

/-- what an operation touches: whether it writes, and which blocks; none: whatever there is -/
abbrev Fp := Option (Bool × List Nat)
def Fp.apart : Fp → Fp → Bool
  | some (false, []), _ => true
  | _, some (false, []) => true
  | some (false, _), some (false, _) => true
  | some (_, l), some (_, m) => l.all fun b => !m.contains b
  | _, _ => false
def fpOp (base : Nat) (op : Iop) (xs : List AV) : Fp :=
  match op with
  | .mv | .pick | .build _ _ | .eqs _ _ | .bnot | .conv _ | .cflt | .ccpx | .mkifc _ | .mkfn _ _ | .fld _ _ | .idx _ _ _ | .idxs
  | .tass _ _ _ | .extr _ | .lens | .min2 | .max2 | .slcs _ _ => some (false, [])
  | .nilchk | .bin _ _ | .len | .slc _ _ _ _ _ | .slca _ _ _ _ _ | .fadr _ | .iadr _ | .iadra _ _ | .load _ | .look _ _ | .tostr => some (false, xs.flatMap refs)
  | .alloc s _ _ | .box s _ | .mkmap s | .mkslice s _ _ _ _ | .srange s => some (true, [base + s])
  | .bslice s _ _ _ _ _ | .app s _ _ _ => some (true, (base + s) :: xs.flatMap refsV)
  | .store _ | .arrp _ | .mapset | .next | .copy _ | .clear _ => some (true, xs.flatMap refsV)
  | .call f sites md => if pureCall md (.fn f [] []) xs then some (true, sites.map (base + ·) ++ xs.flatMap refsV) else none
  | .callv sites md => match xs with
    | fv :: args => if pureCall md fv args then some (true, sites.map (base + ·) ++ args.flatMap refsV) else none
    | [] => none
  | .defer | .panic | .recover => none

/-- slots beside the code's own: deferred calls, what may be recovered, whether it was -/
def dslot : Nat := 999990
def pslot : Nat := 999991
def rslot : Nat := 999992

/-- operations that may panic -/
def mayPan : Iop → Bool
  | .call _ _ _ | .callv _ _ | .panic => true
  | _ => false

/-- one operation of a region, when it is wanted -/
def goOp (cx : Cx) (base : Nat) (env0 : Env) (o : IOper) (env : Env) (S : Sto) : Option (Option AV × Env × Sto) :=
  match o.op with
  | .defer => match (o.xs.map (fun x => x.get env) : List AV) with
    | AV.fn f a c :: args => match env.get dslot with
      | .tup ds => some (none, (dslot, .tup (.tup (.fn f a c :: args) :: ds)) :: env.put o.dst (.tup []), S)
      | .any => some (none, (dslot, .tup [.tup (.fn f a c :: args)]) :: env.put o.dst (.tup []), S)
      | _ => none
    | _ => none
  | .recover => match env.get pslot with
    | .ifc t x => some (none, (rslot, .bool true) :: (pslot, .nili) :: env.put o.dst (.ifc t x), S)
    | .nili => some (none, env.put o.dst .nili, S)
    | _ => none
  | op => match evalOp cx base env0 op (o.xs.map (·.get env)) S with
    | some (.ret v, S1) => some (none, env.put o.dst v, S1)
    | some (.pan x, S1) => if mayPan op then some (some x, env, S1) else none
    | none => none

/-- is an operation wanted? -/
def wants (o : IOper) (env : Env) : Option Bool :=
  match o.guard with
  | none => some true
  | some (t, want) => match env.get t with
    | .bool b => some (b == want)
    | .tup _ => some false
    | _ => none

/-- one operation of a region -/
def stepOp (cx : Cx) (base : Nat) (env0 : Env) (o : IOper) (env : Env) (S : Sto) : Option (Option AV × Env × Sto) :=
  match wants o env with
  | some true => goOp cx base env0 o env S
  | some false => some (none, env.put o.dst (.tup []), S)
  | none => none

def runOps (cx : Cx) (base : Nat) (env0 : Env) : List IOper → Env → Sto → Option (Option AV × Env × Sto)
  | [], env, S => some (none, env, S)
  | o :: os, env, S => match stepOp cx base env0 o env S with
    | some (none, env1, S1) => runOps cx base env0 os env1 S1
    | r => r

/-- what one operation touches -/
def fpStep (base : Nat) (o : IOper) (env : Env) : Fp :=
  match wants o env with
  | some true => fpOp base o.op (o.xs.map (·.get env))
  | _ => some (false, [])

/-- a drawn region: also what each of its operations touched -/
def runOpsD (cx : Cx) (base : Nat) (env0 : Env) : List IOper → Env → Sto → List Fp → Option (Env × Sto × List Fp)
  | [], env, S, fs => some (env, S, fs)
  | o :: os, env, S, fs => match stepOp cx base env0 o env S with
    | some (none, env1, S1) => runOpsD cx base env0 os env1 S1 (fs ++ [fpStep base o env])
    | _ => none

def sameV : AV → AV → Bool
  | .int k a, .int k' b => k == k' && a == b
  | .bool a, .bool b => a == b
  | .ptr b v o, .ptr b' v' o' => b == b' && v == v' && o == o'
  | .eptr b v i k, .eptr b' v' i' k' => b == b' && v == v' && i == i' && k == k'
  | _, _ => false
/-- operations that read tell the same ahead of a call and behind it -/
def twinsOk (cx : Cx) (base : Nat) (env0 : Env) (env : Env) (S : Sto) : List IOper → Bool
  | [] => true
  | o :: os => (match wants o env with
    | some true => (match fpOp base o.op (o.xs.map (·.get env)) with
      | some (false, []) => true
      | some (false, _) => (match evalOp cx base env0 o.op (o.xs.map (·.get env)) S, o.dst with
        | some (.ret a, _), some d => sameV a (env.get d)
        | _, _ => false)
      | _ => false)
    | _ => true) && twinsOk cx base env0 env S os
/-- a drawn region; where operations (so many ahead of the call) read what a call beside them may write, they are to tell the same behind it -/
def runReg (cx : Cx) (base : Nat) (env0 : Env) (ops : List IOper) (sp : Option (Bool × Nat × Nat)) (env : Env) (S : Sto) : Option (Env × Sto × List Fp) :=
  match sp with
  | some (false, c, m) => match runOpsD cx base env0 (ops.take c) env S [] with
    | some (env1, S1, fs) => match runOpsD cx base env0 ((ops.drop c).take 1) env1 S1 fs with
      | some (env2, S2, fs2) => if twinsOk cx base env0 env1 S2 ((ops.take c).drop (c - m)) then runOpsD cx base env0 (ops.drop (c + 1)) env2 S2 fs2 else none
      | none => none
    | none => none
  | _ => runOpsD cx base env0 ops env S []

def pairsOk (fs : List Fp) (pairs : List (Nat × Nat)) : Bool :=
  pairs.all fun p => match fs[p.1]?, fs[p.2]? with
    | some a, some b => Fp.apart a b
    | _, _ => false

abbrev Res := Option (Ex × Env × Sto)

def iter (f : Env → Sto → Res) : Nat → Env → Sto → Res
  | 0, _, _ => none
  | n + 1, env, S => match f env S with
    | some (.nrm, env1, S1) => iter f n env1 S1
    | r => r

def iterG (f : Env → Sto → Res) (l : Nat) : Nat → Env → Sto → Res
  | 0, _, _ => none
  | n + 1, env, S => match f env S with
    | some (.goto l', env1, S1) => if l' = l then iterG f l n env1 S1 else some (.goto l', env1, S1)
    | r => r

def exec (lf : Nat) (cx : Cx) (base : Nat) : IC → Env → Sto → Res
  | .skip, env, S => some (.nrm, env, S)
  | .label _, env, S => some (.nrm, env, S)
  | .reg ops, env, S => match runOps cx base env ops env S with
    | some (none, env1, S1) => some (.nrm, env1, S1)
    | some (some x, env1, S1) => some (.pan x, env1, S1)
    | none => none
  | .regD ops _ sp pairs, env, S => match runReg cx base env ops sp env S with
    | some (env1, S1, fs) => if pairsOk fs pairs then some (.nrm, env1, S1) else none
    | none => none
  | .kpre ks a, env, S => exec lf cx base a (env.keep ks) S
  | .kpost a ks, env, S => match exec lf cx base a env S with
    | some (.nrm, env1, S1) => some (.nrm, env1.keep ks, S1)
    | r => r
  | .seq a b, env, S => match exec lf cx base a env S with
    | some (.nrm, env1, S1) => exec lf cx base b env1 S1
    | r => r
  | .cond c a b, env, S => match c.get env with
    | .bool t => if t = true then exec lf cx base a env S else exec lf cx base b env S
    | _ => none
  | .block id a, env, S => match exec lf cx base a env S with
    | some (.exit i, env1, S1) => if i = id then some (.nrm, env1, S1) else some (.exit i, env1, S1)
    | r => r
  | .loop a, env, S => iter (exec lf cx base a) lf env S
  | .exit id, env, S => some (.exit id, env, S)
  | .scope a rest l, env, S => match exec lf cx base a env S with
    | some (.goto l', env1, S1) => if l' = l then iterG (exec lf cx base rest) l lf env1 S1 else some (.goto l', env1, S1)
    | r => r
  | .scope0 a, env, S => exec lf cx base a env S
  | .goto l, env, S => some (.goto l, env, S)
  | .ret, env, S => some (.ret, env, S)
  | .rangeF s f params assign body, env, S =>
    if base + s < S.length then
      match (match cx.cd none (f.get env) [.yld (base + s) (S.ver (base + s) + 1)]
        (S.set (base + s) (.loop (S.ver (base + s) + 1) base S.length env params assign body 0 none)) with
        | some (o, _, S1) => retire S.length (fun _ => []) o S1
        | none => none) with
      | some (.ret _, S2) => match S2[base + s]? with
        | some (.loop v _ _ _ _ _ _ st jump) => if v = S.ver (base + s) + 1 ∧ st < 2 then
            (match jump with
            | none => some (.nrm, env, S2.set (base + s) (.dead v))
            | some j => some (j, env, S2.set (base + s) (.dead v))) else none
        | _ => none
      | some (.pan x, S2) => some (.pan x, env, S2)
      | none => none
    else none

/-- a value that stands in cells or in a slot -/
def resV (env : Env) (S : Sto) : IRes → Option AV
  | .t i => some (env.get i)
  | .cell i n => match opLoad n [env.get i] S with
    | some (.ret v, _) => some v
    | _ => none
def resL (env : Env) (S : Sto) : List IRes → Option (List AV)
  | [] => some []
  | r :: rs => match resV env S r, resL env S rs with
    | some v, some vs => some (v :: vs)
    | _, _ => none
def results (env : Env) (S : Sto) (rs : List IRes) : Option AV :=
  match resL env S rs with
  | some [v] => some v
  | some vs => some (.tup vs)
  | none => none

/-- the deferred calls, the last one first -/
def runDefers (cx : Cx) : List AV → Option AV → Sto → Option (Option AV × Sto)
  | [], p, S => some (p, S)
  | .tup (fv :: args) :: ds, p, S => match cx.cd p fv args S with
    | some (o, rec, S1) => match retire S.length (fun _ => []) o S1 with
      | some (.ret _, S2) => runDefers cx ds (if rec then none else p) S2
      | some (.pan x, S2) => runDefers cx ds (some x) S2
      | none => none
    | none => none
  | _, _, _ => none

def zipEnv (i : Nat) : List AV → Env
  | [] => []
  | x :: xs => (i, x) :: zipEnv (i + 1) xs

def recB : AV → Bool
  | .bool b => b
  | _ => false
def finish (cx : Cx) (fn : IFn) (p : Option AV) (env : Env) (S : Sto) : Option (Out × Bool × Sto) :=
  let r := recB (env.get rslot)
  match env.get dslot with
  | .tup ds => match runDefers cx ds p S with
    | some (none, S1) => match results env S1 fn.res with
      | some v => some (.ret v, r, S1)
      | none => none
    | some (some x, S1) => some (.pan x, r, S1)
    | none => none
  | _ => match p with
    | none => match results env S fn.res with
      | some v => some (.ret v, r, S)
      | none => none
    | some x => some (.pan x, r, S)

def pvOk : Option AV → Bool
  | none => true
  | some (.ifc _ _) => true
  | _ => false
def callFn (lf : Nat) (cx : Cx) (IP : Nat → Option IFn) (pv : Option AV) (f : Nat) (args : List AV) (S : Sto) : Option (Out × Bool × Sto) :=
  match IP f with
  | none => none
  | some fn =>
    if args.length ≤ fn.nt && pvOk pv then
    match exec lf cx S.length fn.body ((pslot, pv.getD .nili) :: zipEnv 0 args) (S ++ List.replicate fn.ns (.dead 0)) with
    | some (.ret, env, S1) => finish cx fn none env S1
    | some (.nrm, env, S1) => finish cx fn none env S1
    | some (.pan x, env, S1) => finish cx fn (some x) env S1
    | _ => none
    else none

/-- behind a round: how the loop stands -/
def roundEnd (b ver : Nat) (j : Option Ex) (S : Sto) : Option (Out × Bool × Sto) :=
  match S[b]? with
  | some (.loop v base lev env params assign body 2 none) => if v = ver then
      (match j with
      | none => some (.ret (.bool true), false, S.set b (.loop v base lev env params assign body 0 none))
      | some j => some (.ret (.bool false), false, S.set b (.loop v base lev env params assign body 1 (some j)))) else none
  | _ => none
def callYld (lf : Nat) (cx : Cx) (b ver : Nat) (args : List AV) (S : Sto) : Option (Out × Bool × Sto) :=
  match S[b]? with
  | some (.loop v base lev env params assign body 0 none) =>
    if v = ver ∧ params.length = args.length then
      match exec lf cx base assign ((params.zip args).foldl (fun en p => p :: en) env) S with
      | some (.nrm, env1, S1) =>
        match S1[b]? with
        | some (.loop v1 base1 lev1 en1 ps1 as1 bo1 0 none) => if v1 = ver then
          (match exec lf cx base body env1 (S1.set b (.loop v1 base1 lev1 en1 ps1 as1 bo1 2 none)) with
          | some (.nrm, _, S2) => roundEnd b ver none S2
          | some (.pan x, _, S2) => some (.pan x, false, S2)
          | some (j, _, S2) => roundEnd b ver (some j) S2
          | none => none) else none
        | _ => none
      | _ => none
    else none
  | _ => none

/-- calls, so deep -/
def call (lf : Nat) (IP : Nat → Option IFn) (ext : Nat → Option (List AV → Option AV)) : Nat → CallD
  | 0 => fun _ _ _ _ => none
  | d + 1 => fun pv fv args S =>
    match fv with
    | .fn f first cap => if (ext f).isSome then none else callFn lf ⟨call lf IP ext d, ext⟩ IP pv f (first ++ args ++ cap) S
    | .yld b ver => callYld lf ⟨call lf IP ext d, ext⟩ b ver args S
    | _ => none

end Go.Wm
