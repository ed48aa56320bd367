import GoSem.Core.Value
import GoSem.Core.Ast
import GoSem.Core.View
import GoSem.Op.String
import Derived.Laws.AppendOwn
import Derived.Laws.OwnMore
import Derived.Laws.Sem
import Derived.Laws.World
import Derived.Below
import Derived.Calls
set_option linter.unusedVariables false
set_option linter.unusedSimpArgs false
/-
  The abstract interpreter: data that carry their content, a small machine code, and what it computes. Nothing of the model's memory stands here.
-/
namespace Go.Abs
open Go

inductive D where
  | junk
  | undef
  | nils (e : Nat)
  | bool (b : Bool)
  | int (k : IntKind) (n : Int)
  | str (s : List UInt8)
  | nilp
  | nilm
  | nilf
  | ptr (o off : Nat)
  | lptr (t off : Nat)
  | ref (cs : List D)
  | sl (es : List (List D)) (own : Option Nat)
  | msl (o off len esz : Nat)
  | map (o : Nat)
  | func (f : Nat) (caps : List D)
  | agg (cs : List D)
  | tup (vs : List D)
  /-- this very value -/
  | val (v : Value)
  deriving Inhabited

/-- The copy of a value that may not be appended to. -/
def D.strip : D → D
  | .sl es _ => .sl es none
  | .nils _ => .sl [] none
  | d => d

/-- One cell that stays as it is whatever is done elsewhere. -/
def D.pure1 : D → Bool
  | .bool _ | .int _ _ | .str _ | .nilp | .nilm | .nilf | .ref _ | .sl _ _ | .nils _ | .func _ [] => true
  | _ => false

/-- One cell. -/
def D.plain : D → Bool
  | .junk | .undef | .lptr _ _ | .agg _ | .tup _ | .val _ => false
  | _ => true

def D.notL : D → Bool
  | .lptr _ _ => false
  | _ => true

def D.cells : D → List D
  | .agg cs => cs.map D.strip
  | d => [d]

/-- A struct's cell that is laid into memory: of nil it is known that nothing is shared. -/
def D.ripe : D → D
  | .nils e => .sl [] (some e)
  | d => d.strip

def D.raw : D → List D
  | .agg cs => cs.map D.ripe
  | d => [d]

/-- A struct without what is its own. -/
def D.bare : D → D
  | .agg cs => .agg (cs.map D.strip)
  | d => d

def D.deep (d : D) : D := d.bare.strip

inductive X where
  | tmp (t : Nat)
  | const (d : D)
  deriving Inhabited

inductive MOp where
  | move (x : X) (steal : Bool)
  | assign (x : X)
  | pick (c a b : X)
  | alloc (zero : List D)
  | box (x : X)
  | build (zero : List D) (parts : List (Nat × Nat × X))
  | buildSlice (e esz n : Nat) (zero : List D) (parts : List (Nat × X))
  | load (agg : Bool) (size : Nat) (a : X) (steal : Bool)
  | store (size : Nat) (a x : X)
  | nilCheck (x : X)
  | bin (op : BinOp) (x y : X)
  | eqb (neg : Bool) (x y : X)
  | eqn (neg : Bool) (x : X)
  | eqA (n : Nat) (neg : Bool) (x y : X)
  | un (op : UnOp) (x : X)
  | conv (k : IntKind) (x : X)
  | mkfunc (f : Nat) (caps : List X)
  | mkmap
  | mkslice (esz bytes : Nat) (zero : List D) (len cap : X)
  | slice (esz : Nat) (x : X) (lo hi : Option X)
  | sliceStr (x : X) (lo hi : Option X)
  | fieldAddr (off : Nat) (x : X)
  | field (agg : Bool) (off size : Nat) (x : X)
  | indexAddr (esz : Nat) (x i : X)
  | indexArr (ad agg : Bool) (len esz : Nat) (x i : X)
  | lookup (kk : Nat) (agg : Bool) (zero : List D) (x i : X) (ok : Bool)
  | mapUpdate (kk : Nat) (m k x : X)
  /-- .. of what may be the address of a variable of the frame's own: that becomes an object. -/
  | mapUpdateP (kk : Nat) (m k x : X)
  | extract (x : X) (i : Nat)
  | len (kind : Nat) (x : X)
  | append (e esz bytes : Nat) (mutable : Bool) (x y : X)
  | max (xs : List X)
  | min (xs : List X)
  /-- what the interpreter does not follow -/
  | bad
  | call (f : Nat) (args : List X)
  | callv (f : X) (args : List X)
  | defer (f : X) (args : List X)
  /-- A load that is not through the box of t. -/
  | loadA (t : Nat) (agg : Bool) (size : Nat) (a : X)
  /-- A store into the box of t, which t itself points to. -/
  | storeR (size : Nat) (t : Nat) (x : X)
  /-- An allocation where there was no box before. -/
  | allocR (zero : List D)
  /-- A call whose arguments hold no address of the frame's own variables. -/
  | callS (f : Nat) (args : List X)
  | indexStr (x i : X)
  | delete (kk : Nat) (m k : X)
  /-- A load of what is the frame's own, or of content. -/
  | loadL (agg : Bool) (size : Nat) (a : X)
  /-- a call that sees the store, whatever its arguments -/
  | callM (f : Nat) (args : List X)
  /-- a row of its own in memory -/
  | buildM (e esz n : Nat) (zero : List D) (parts : List (Nat × X))
  /-- a row's cells are put to nothing -/
  | clear (esz : Nat) (zero : List D) (x : X)
  deriving Inhabited

structure MOper where
  dst : Option Nat
  op : MOp
  guard : Option (Nat × Bool)
  deriving Inhabited

inductive Obj where
  | cells (cs : List D)
  | map (es : List (D × D))
  | dead
  /-- the object ahead of this one is a row of such elements -/
  | row (e : Nat)
  /-- a map that is ranged over: it may be read alone -/
  | mapR (es : List (D × D))
  deriving Inhabited

/-- What a range over a map is made of: the operations ahead of it, the map, the places of the iterator, of what comes next, of whether there is more, and of the entry; the operations behind the entry; the two blocks. -/
structure MRange where
  keep : List Nat
  res : List Nat
  pre : List MOper
  m : X
  it : Nat
  tupN : Nat
  okT : Nat
  tupE : Nat
  ext : MOper
  tail : List MOper
  idOut : Nat
  idIn : Nat

structure Fr where
  slots : List D
  boxes : List (Option (List D))
  defers : List (D × List D)

inductive AE where
  | normal
  | exit (id : Nat)
  | ret

inductive MCode where
  | skip
  | region (quiet : Bool) (ops : List MOper)
  /-- A region in every order that its edges allow. -/
  | regionA (ops : List MOper) (pre : List (List Nat))
  /-- A region that may be run by one of these, in the order of the text; else in every order. -/
  | regionQ (alts : List (Bool × List MOper)) (ops : List MOper) (pre : List (List Nat))
  | seq (a b : MCode)
  | cond (x : X) (a b : MCode)
  | block (id : Nat) (c : MCode)
  | loop (keep : List Nat) (c : MCode)
  | exit (id : Nat)
  | ret
  /-- A range over a map, and what comes behind it up to the function's end: in every order of the entries. -/
  | rangeM (R : MRange) (body rest : MCode)
  /-- What a statement does, told by a function. -/
  | nat (N : Fr → List Obj → Option (AE × Fr × List Obj))
  deriving Inhabited

inductive MRes where
  | tmp (t : Nat)
  | cell (t : Nat) (agg : Bool) (size : Nat)
  deriving Inhabited

structure MFunc where
  nparams : Nat
  ntmps : Nat
  results : List MRes
  body : MCode
  deriving Inhabited

abbrev St := List Obj

def Fr.at (fr : Fr) (t : Nat) : D := fr.slots.getD t .junk
def Fr.set (fr : Fr) (t : Nat) (d : D) : Fr := { fr with slots := fr.slots.set t d }
def Fr.setBox (fr : Fr) (t : Nat) (b : Option (List D)) : Fr := { fr with boxes := fr.boxes.set t b }
def Fr.boxAt (fr : Fr) (t : Nat) : Option (List D) := (fr.boxes[t]?).getD none

/-- The value of an operand: a copy. -/
def Fr.val (fr : Fr) : X → D
  | .tmp t => (fr.at t).strip
  | .const d => d.strip

/-- The value of an argument. -/
def Fr.arg (fr : Fr) : X → D
  | .tmp t => (fr.val (.tmp t)).deep
  | .const d => d.strip

/-- The value itself, with what is its own. -/
def Fr.take (fr : Fr) : X → D × Fr
  | .tmp t => (fr.at t, fr.set t (fr.at t).strip)
  | .const d => (d, fr)

def killL (t : Nat) : D → D
  | .lptr s off => if s = t then .junk else .lptr s off
  | d => d

def relinkL (t o : Nat) : D → D
  | .lptr s off => if s = t then .ptr o off else .lptr s off
  | d => d

/-- A variable's own memory, new. -/
def Fr.newBox (fr : Fr) (t : Nat) (cs : List D) : Fr :=
  match fr.boxAt t with
  | none => fr.setBox t (some cs)
  | some _ => { fr with slots := fr.slots.map (killL t), boxes := fr.boxes.set t (some cs) }

/-- A variable's memory that is to be seen from outside becomes an object. -/
def Fr.promote (fr : Fr) (σ : St) (t : Nat) : Option (Fr × St) :=
  match fr.boxAt t with
  | some cs => some ({ fr with slots := fr.slots.map (relinkL t σ.length), boxes := fr.boxes.set t none }, σ ++ [.cells cs])
  | none => none

/-- The variable that x points to, if it is one of the frame's own, becomes an object. -/
def Fr.ownP (fr : Fr) (σ : St) (x : X) : Option (Fr × St) :=
  match fr.val x with
  | .lptr s _ => fr.promote σ s
  | _ => some (fr, σ)

def Fr.promoteX (fr : Fr) (σ : St) : X → Option (D × Fr × St)
  | .const d => some (d.strip, fr, σ)
  | .tmp t =>
    match fr.at t with
    | .lptr s off => (fr.promote σ s).map fun (fr', σ') => (.ptr σ.length off, fr', σ')
    | d => some (d.deep, fr, σ)

def Fr.promoteAll (fr : Fr) (σ : St) : List X → Option (List D × Fr × St)
  | [] => some ([], fr, σ)
  | x :: xs =>
    match fr.promoteX σ x with
    | some (d, fr, σ) => (Fr.promoteAll fr σ xs).map fun (ds, r) => (d :: ds, r)
    | none => none

def setAt {α : Type} (cs : List α) (off : Nat) : List α → List α
  | [] => cs
  | d :: ds => setAt (cs.set off d) (off + 1) ds

/-- The cells that an address shows. -/
def cellsAt (fr : Fr) (σ : St) : D → Option (List D)
  | .ref cs => some cs
  | .lptr t off => (fr.boxAt t).map (·.drop off)
  | .ptr o off =>
    match σ[o]? with
    | some (.cells cs) => some (cs.drop off)
    | _ => none
  | _ => none

def storeAt (fr : Fr) (σ : St) (a : D) (ds : List D) : Option (Fr × St) :=
  match a with
  | .lptr t off =>
    match fr.boxAt t with
    | some cs => if off + ds.length ≤ cs.length then some (fr.setBox t (some (setAt cs off ds)), σ) else none
    | none => none
  | .ptr o off =>
    match σ[o]? with
    | some (.cells cs) => if off + ds.length ≤ cs.length then some (fr, σ.set o (.cells (setAt cs off ds))) else none
    | _ => none
  | _ => none

def shiftD (op : BinOp) (k : IntKind) (x y : Int) : Option D :=
  if y < 0 then none else
  match op with
  | .shl => some (.int k (k.wrap (x * 2 ^ (min y.toNat k.bits))))
  | .shr => some (.int k (x.fdiv (2 ^ (min y.toNat k.bits))))
  | _ => none

def intD (op : BinOp) (k : IntKind) (x y : Int) : Option D :=
  match op with
  | .add => some (.int k (k.wrap (x + y)))
  | .sub => some (.int k (k.wrap (x - y)))
  | .mul => some (.int k (k.wrap (x * y)))
  | .quo => if y = 0 then none else some (.int k (k.wrap (x.tdiv y)))
  | .rem => if y = 0 then none else some (.int k (x.tmod y))
  | .and => some (.int k (k.wrap (BitVec.ofInt k.bits x &&& BitVec.ofInt k.bits y).toNat))
  | .or => some (.int k (k.wrap (BitVec.ofInt k.bits x ||| BitVec.ofInt k.bits y).toNat))
  | .xor => some (.int k (k.wrap (BitVec.ofInt k.bits x ^^^ BitVec.ofInt k.bits y).toNat))
  | .eql => some (.bool (x == y))
  | .neq => some (.bool (x != y))
  | .lss => some (.bool (decide (x < y)))
  | .leq => some (.bool (decide (x ≤ y)))
  | .gtr => some (.bool (decide (x > y)))
  | .geq => some (.bool (decide (x ≥ y)))
  | _ => none

def strD (op : BinOp) (x y : List UInt8) : Option D :=
  match op with
  | .add => if x.length + y.length ≤ 140737488355328 then some (.str (x ++ y)) else none
  | .eql => some (.bool (x == y))
  | .neq => some (.bool (!(x == y)))
  | .lss => some (.bool (Op.bytesLess x y))
  | .leq => some (.bool (Op.bytesLess x y || x == y))
  | .gtr => some (.bool (!(Op.bytesLess x y || x == y)))
  | .geq => some (.bool (!(Op.bytesLess x y)))
  | _ => none

def binD (op : BinOp) : D → D → Option D
  | .int k x, .int k' y =>
    match op with
    | .shl => shiftD .shl k x y
    | .shr => shiftD .shr k x y
    | op => if k = k' then intD op k x y else none
  | .str x, .str y => strD op x y
  | _, _ => none

def eqbD (neg : Bool) : D → D → Option D
  | .bool x, .bool y => some (.bool ((x == y) != neg))
  | _, _ => none

def eqnD (neg : Bool) : D → Option D
  | .nilp => some (.bool (!neg))
  | .ptr _ _ | .lptr _ _ | .ref _ => some (.bool neg)
  | _ => none

def unD (op : UnOp) : D → Option D
  | .int k n =>
    match op with
    | .neg => some (.int k (k.wrap (0 - n)))
    | _ => none
  | .bool b =>
    match op with
    | .not => some (.bool (!b))
    | _ => none
  | _ => none

inductive LK where
  | b
  | i (k : IntKind)
  | s
  deriving DecidableEq
def LK.fits : LK → D → Bool
  | .b, .bool _ => true
  | .i k, .int k' _ => decide (k = k')
  | .s, .str _ => true
  | _, _ => false
def fitL : List LK → List D → Bool
  | [], [] => true
  | k :: ks, d :: ds => k.fits d && fitL ks ds
  | _, _ => false
def leafEq : D → D → Bool
  | .bool a, .bool b => a == b
  | .int _ a, .int _ b => a == b
  | .str a, .str b => a == b
  | _, _ => false
def eqLs : List D → List D → Bool
  | [], [] => true
  | x :: xs, y :: ys => leafEq x y && eqLs xs ys
  | _, _ => false
def LK.code : LK → Nat
  | .b => 1
  | .s => 2
  | .i .i8 => 3
  | .i .i16 => 4
  | .i .i32 => 5
  | .i .i64 => 6
  | .i .u8 => 7
  | .i .u16 => 8
  | .i .u32 => 9
  | .i .u64 => 10
def lkOf : Nat → Option LK
  | 1 => some .b
  | 2 => some .s
  | 3 => some (.i .i8)
  | 4 => some (.i .i16)
  | 5 => some (.i .i32)
  | 6 => some (.i .i64)
  | 7 => some (.i .u8)
  | 8 => some (.i .u16)
  | 9 => some (.i .u32)
  | 10 => some (.i .u64)
  | _ => none
def decK : Nat → Nat → List LK
  | 0, _ => []
  | f + 1, n =>
    match lkOf (n % 16) with
    | some k => k :: decK f (n / 16)
    | none => []
/-- The leaves that a number tells of. -/
def keyLs (n : Nat) : List LK := decK 32 n
def encK : List LK → Nat
  | [] => 0
  | k :: ks => k.code + 16 * encK ks
/-- Two structs, or two arrays, of such leaves. -/
def eqaD (n : Nat) (neg : Bool) : D → D → Option D
  | .agg xs, .agg ys => if fitL (keyLs n) xs = true ∧ fitL (keyLs n) ys = true then some (.bool (eqLs xs ys != neg)) else none
  | _, _ => none

/-- Are two keys the same? 0: numbers; 1: texts; 2: truths; from 3 on: structs and arrays of such. -/
def eqKey : Nat → D → D → Option Bool
  | 0, .int k a, .int k' b => if k = k' then some (a == b) else none
  | 1, .str a, .str b => some (a == b)
  | 2, .bool a, .bool b => some (a == b)
  | n + 3, .agg xs, .agg ys => if fitL (keyLs n) xs = true ∧ fitL (keyLs n) ys = true then some (eqLs xs ys) else none
  | _, _, _ => none

def findKey (kk : Nat) (k : D) : List (D × D) → Option (Option D)
  | [] => some none
  | (k', v) :: es =>
    match eqKey kk k k' with
    | some true => some (some v)
    | some false => findKey kk k es
    | none => none

def putKey (kk : Nat) (k x : D) : List (D × D) → Option (List (D × D))
  | [] => some [(k, x)]
  | (k', v) :: es =>
    match eqKey kk k k' with
    | some true => some ((k, x) :: es)
    | some false => (putKey kk k x es).map ((k', v) :: ·)
    | none => none

def delKey (kk : Nat) (k : D) : List (D × D) → Option (List (D × D))
  | [] => some []
  | (k', v) :: es =>
    match eqKey kk k k' with
    | some true => some es
    | some false => (delKey kk k es).map ((k', v) :: ·)
    | none => none

def keyD : Nat → D → Bool
  | 0, .int _ _ | 1, .str _ | 2, .bool _ => true
  | n + 3, .agg xs => fitL (keyLs n) xs
  | _, _ => false

def fillD (cs : List D) : List (Nat × Nat × D) → Option (List D)
  | [] => some cs
  | (off, size, d) :: rest =>
    if d.cells.length = size ∧ off + size ≤ cs.length ∧ d.cells.all D.plain then fillD (setAt cs off (d.cells.map D.strip)) rest else none

def fillE (es : List (List D)) (esz : Nat) : List (Nat × D) → Option (List (List D))
  | [] => some es
  | (i, d) :: rest =>
    if d.cells.length = esz ∧ i < es.length ∧ d.cells.all D.pure1 then fillE (es.set i (d.cells.map D.strip)) esz rest else none

/-- A row of cells, element by element. -/
def chunk (esz : Nat) (cs : List D) : Nat → List (List D)
  | 0 => []
  | n + 1 => cs.take esz :: chunk esz (cs.drop esz) n

/-- What a slice shows: its elements. -/
def elems (σ : St) : D → Option (List (List D))
  | .sl es _ => some es
  | .msl o off n esz =>
    match σ[o]? with
    | some (.cells cs) => if off + n * esz ≤ cs.length ∧ 0 < esz ∧ cs.all D.pure1 then some (chunk esz ((cs.drop off).map D.strip) n) else none
    | _ => none
  | _ => none

def intOf? : D → Option Int
  | .int _ n => some n
  | _ => none

def loD : Option D → Option Nat
  | none => some 0
  | some d => (intOf? d).bind fun n => if 0 ≤ n then some n.toNat else none

def hiD (len : Nat) : Option D → Option Nat
  | none => some len
  | some d => (intOf? d).bind fun n => if 0 ≤ n then some n.toNat else none

def Fr.optVal (fr : Fr) : Option X → Option D
  | none => none
  | some x => some (fr.val x)

def room : Nat := 140737488355328

/-- What a call answers goes out: nothing of the callee's own memory. -/
def freeze1 (σ : St) : D → Option D
  | .bool b => some (.bool b)
  | .int k n => some (.int k n)
  | .str s => some (.str s)
  | .nilp => some .nilp
  | .nilm => some .nilm
  | .nilf => some .nilf
  | .ref cs => some (.ref cs)
  | .sl es own => some (.sl es own)
  | .func f [] => some (.func f [])
  | .msl o off n esz => (elems σ (.msl o off n esz)).map (.sl · none)
  | _ => none

def freezeL (σ : St) : List D → Option (List D)
  | [] => some []
  | d :: ds =>
    match freeze1 σ d with
    | some d => (freezeL σ ds).map (d.strip :: ·)
    | none => none

def freezeT (σ : St) : List D → Option (List D)
  | [] => some []
  | .agg cs :: ds =>
    match freezeL σ cs with
    | some cs => (freezeT σ ds).map (.agg cs :: ·)
    | none => none
  | d :: ds =>
    match freeze1 σ d with
    | some d => (freezeT σ ds).map (d.strip :: ·)
    | none => none

def freeze (σ : St) : D → Option D
  | .agg cs => (freezeL σ cs).map .agg
  | .tup vs => (freezeT σ vs).map .tup
  | d => freeze1 σ d

def scalar1 : D → Bool
  | .bool _ | .int _ _ | .str _ | .nilp => true
  | _ => false

/-- A cell that may stand in a row that is appended to again: its content alone. -/
def calm1 : D → Bool
  | .bool _ | .int _ _ | .str _ | .nilp | .nilm | .nilf | .ref _ | .sl _ none | .func _ [] => true
  | _ => false

def scalar : D → Bool
  | .tup vs => vs.all scalar1
  | d => scalar1 d

/-- An argument that a call may have without seeing the store. -/
def pureArg : D → Bool
  | .agg cs => cs.all D.pure1
  | .msl .. => true
  | d => d.pure1

def snap (σ : St) : List D → Option (List D × List Nat)
  | [] => some ([], [])
  | .msl o off n esz :: ds =>
    match elems σ (.msl o off n esz), snap σ ds with
    | some es, some (r, os) => some (.sl es none :: r, o :: os)
    | _, _ => none
  | d :: ds => (snap σ ds).map fun (r, os) => (d :: r, os)

def killAll (σ : St) : List Nat → St
  | [] => σ
  | o :: os => killAll (σ.set o .dead) os

abbrev Cal := Nat → List D → St → Option (D × St)

def doCall (cal : Cal) (f : Nat) (args : List D) (σ : St) : Option (D × St) :=
  if args.all pureArg then
    match snap σ args with
    | none => none
    | some (args', os) =>
      match cal f args' [] with
      | none => if args.all D.notL then cal f args σ else none
      | some (r, σc) =>
        match freeze σc r with
        | none => if args.all D.notL then cal f args σ else none
        | some r' => some (r', if os.isEmpty || scalar r' then σ else killAll σ os)
  else if args.all D.notL then cal f args σ else none

/-- A call that leaves the store as it is. -/
def doCallQ (cal : Cal) (f : Nat) (args : List D) (σ : St) : Option D :=
  if args.all pureArg then
    match snap σ args with
    | none => none
    | some (args', os) =>
      match cal f args' [] with
      | none => none
      | some (r, σc) =>
        match freeze σc r with
        | none => none
        | some r' => if os.isEmpty || scalar r' then some r' else none
  else none

/-- Data that hold nothing but their content. -/
def pureD : D → Bool
  | .agg cs => cs.all D.pure1
  | .tup vs => vs.all fun | .agg cs => cs.all D.pure1 | d => d.pure1
  | d => d.pure1

def maxD : D → List D → Option D
  | .int k a, [] => some (.int k a)
  | .int k a, .int k' b :: ds => if k = k' then maxD (.int k (if b > a then b else a)) ds else none
  | _, _ => none

def minD : D → List D → Option D
  | .int k a, [] => some (.int k a)
  | .int k a, .int k' b :: ds => if k = k' then minD (.int k (if b < a then b else a)) ds else none
  | _, _ => none

/-- The entries of a map that may be read. -/
def mapOf (σ : St) (o : Nat) : Option (List (D × D)) :=
  match σ[o]? with
  | some (.map es) => some es
  | some (.mapR es) => some es
  | _ => none

def D.inBox (t : Nat) : D → Bool
  | .lptr s _ => s == t
  | _ => false

def okL : D → Bool
  | .lptr _ _ | .ref _ => true
  | _ => false

def evalOp (cal : Cal) (quiet : Bool) (dst : Option Nat) (op : MOp) (fr : Fr) (σ : St) : Option (D × Fr × St) :=
  match op with
  | .move x steal =>
    if steal then let (d, fr) := fr.take x; some (d, fr, σ) else some (fr.val x, fr, σ)
  | .assign x => let (d, fr) := fr.take x; some (d, fr, σ)
  | .pick c a b =>
    match fr.val c with
    | .bool true => some (fr.val a, fr, σ)
    | .bool false => some (fr.val b, fr, σ)
    | _ => none
  | .alloc zero =>
    match dst with
    | some t => some (.lptr t 0, fr.newBox t zero, σ)
    | none => none
  | .box x =>
    match dst with
    | some t =>
      let cs := (fr.val x).cells
      if cs.all D.plain then some (.lptr t 0, fr.newBox t (fr.val x).raw, σ) else none
    | none => none
  | .build zero parts => (fillD zero (parts.map fun (o, s, x) => (o, s, fr.val x))).map fun cs => (.agg cs, fr, σ)
  | .buildSlice e esz n zero parts =>
    (fillE (List.replicate n zero) esz (parts.map fun (i, x) => (i, fr.val x))).map fun es => (.sl es (some e), fr, σ)
  | .load agg size a steal =>
    match cellsAt fr σ (fr.val a) with
    | none => none
    | some cs =>
      if agg then (if size ≤ cs.length then some (.agg ((cs.take size).map D.strip), fr, σ) else none)
      else match cs with
        | [] => none
        | d :: _ =>
          if steal then (storeAt fr σ (fr.val a) [d.strip]).map fun (fr, σ) => (d, fr, σ)
          else some (d.strip, fr, σ)
  | .store size a x =>
    let (d, fr') := fr.take x
    if d.cells.length = size ∧ d.cells.all D.plain then (storeAt fr' σ (fr.val a) d.raw).map fun (fr, σ) => (.junk, fr, σ) else none
  | .nilCheck x =>
    match fr.val x with
    | .ptr o off => some (.ptr o off, fr, σ)
    | .lptr t off => some (.lptr t off, fr, σ)
    | .ref cs => some (.ref cs, fr, σ)
    | _ => none
  | .bin op x y => (binD op (fr.val x) (fr.val y)).map (·, fr, σ)
  | .eqb neg x y => (eqbD neg (fr.val x) (fr.val y)).map (·, fr, σ)
  | .eqn neg x => (eqnD neg (fr.val x)).map (·, fr, σ)
  | .eqA n neg x y => (eqaD n neg (fr.val x) (fr.val y)).map (·, fr, σ)
  | .un op x => (unD op (fr.val x)).map (·, fr, σ)
  | .conv k x =>
    match fr.val x with
    | .int _ n => some (.int k (k.wrap n), fr, σ)
    | _ => none
  | .mkfunc f caps => (fr.promoteAll σ caps).map fun (ds, fr, σ) => (.func f ds, fr, σ)
  | .mkmap => some (.map σ.length, fr, σ ++ [.map []])
  | .mkslice esz bytes zero len cap =>
    match fr.val len, fr.val cap with
    | .int .i64 n, .int .i64 c =>
      if 0 ≤ n ∧ n = c ∧ n * bytes ≤ 140737488355328 ∧ n < 4611686018427387904 then
        some (.msl σ.length 0 n.toNat esz, fr, σ ++ [.cells (List.replicate n.toNat zero).flatten])
      else none
    | _, _ => none
  | .slice esz x lo hi =>
    match fr.val x with
    | .sl es _ =>
      match loD (fr.optVal lo), hiD es.length (fr.optVal hi) with
      | some l, some h => if l ≤ h ∧ h ≤ es.length ∧ (es.all fun e => e.length == esz) then some (.sl ((es.drop l).take (h - l)) none, fr, σ) else none
      | _, _ => none
    | .msl o off n esz' =>
      match loD (fr.optVal lo), hiD n (fr.optVal hi) with
      | some l, some h =>
        if l ≤ h ∧ h ≤ n ∧ esz' = esz then (if l = n ∧ 0 < l then some (.sl [] none, fr, σ) else some (.msl o (off + l * esz) (h - l) esz, fr, σ)) else none
      | _, _ => none
    | _ => none
  | .sliceStr x lo hi =>
    match fr.val x with
    | .str s =>
      match loD (fr.optVal lo), hiD s.length (fr.optVal hi) with
      | some l, some h => if l ≤ h ∧ h ≤ s.length then some (.str ((s.drop l).take (h - l)), fr, σ) else none
      | _, _ => none
    | _ => none
  | .fieldAddr off x =>
    match fr.val x with
    | .ref cs => some (.ref (cs.drop off), fr, σ)
    | .lptr t o => some (.lptr t (o + off), fr, σ)
    | .ptr o a => some (.ptr o (a + off), fr, σ)
    | _ => none
  | .field agg off size x =>
    match fr.val x with
    | .agg cs =>
      if agg then (if off + size ≤ cs.length then some (.agg ((cs.drop off).take size), fr, σ) else none)
      else (cs[off]?).map (·.strip, fr, σ)
    | _ => none
  | .indexAddr esz x i =>
    match intOf? (fr.val i) with
    | none => none
    | some i =>
      if 0 ≤ i then
        match fr.val x with
        | .sl es _ =>
          match es[i.toNat]? with
          | some e => if e.length = esz then some (.ref e, fr, σ) else none
          | none => none
        | .msl o off n esz' => if i < n ∧ esz' = esz then some (.ptr o (off + i.toNat * esz), fr, σ) else none
        | _ => none
      else none
  | .indexArr ad agg len esz x i =>
    match intOf? (fr.val i) with
    | none => none
    | some i =>
      if 0 ≤ i ∧ i < len then
        if ad then
          match fr.val x with
          | .lptr t o => some (.lptr t (o + i.toNat * esz), fr, σ)
          | .ptr o a => some (.ptr o (a + i.toNat * esz), fr, σ)
          | _ => none
        else
          match fr.val x with
          | .agg cs =>
            if agg then (if (i.toNat + 1) * esz ≤ cs.length then some (.agg ((cs.drop (i.toNat * esz)).take esz), fr, σ) else none)
            else if esz = 1 then (cs[i.toNat]?).map (·.strip, fr, σ) else none
          | _ => none
      else none
  | .lookup kk agg zero x i ok =>
    match fr.val x with
    | .map o =>
      match mapOf σ o with
      | some es =>
        if keyD kk (fr.val i) then
          match findKey kk (fr.val i) es with
          | some (some v) => some (if ok then .tup [v, .bool true] else v, fr, σ)
          | some none =>
            match zero with
            | z :: rest =>
              if agg then some (if ok then .tup [.agg (z :: rest), .bool false] else .agg (z :: rest), fr, σ)
              else if rest.isEmpty then some (if ok then .tup [z.strip, .bool false] else z.strip, fr, σ) else none
            | [] => none
          | none => none
        else none
      | _ => none
    | _ => none
  | .mapUpdate kk m k x =>
    match fr.val m with
    | .map o =>
      match σ[o]? with
      | some (.map es) =>
        if keyD kk (fr.val k) ∧ (fr.val x).notL then (putKey kk (fr.val k) (fr.val x) es).map fun es => (.junk, fr, σ.set o (.map es)) else none
      | _ => none
    | _ => none
  | .mapUpdateP kk m k x =>
    match fr.ownP σ x with
    | none => none
    | some (fr, σ) =>
      match fr.val m with
      | .map o =>
        match σ[o]? with
        | some (.map es) =>
          if keyD kk (fr.val k) ∧ (fr.val x).notL then (putKey kk (fr.val k) (fr.val x) es).map fun es => (.junk, fr, σ.set o (.map es)) else none
        | _ => none
      | _ => none
  | .extract x i =>
    match fr.val x with
    | .tup vs => (vs[i]?).map (·.strip, fr, σ)
    | _ => none
  | .len 0 x =>
    match fr.val x with
    | .sl es _ => some (.int .i64 es.length, fr, σ)
    | .msl _ _ n _ => some (.int .i64 n, fr, σ)
    | _ => none
  | .len 1 x =>
    match fr.val x with
    | .str s => some (.int .i64 s.length, fr, σ)
    | _ => none
  | .len _ x =>
    match fr.val x with
    | .map o =>
      match mapOf σ o with
      | some es => some (.int .i64 es.length, fr, σ)
      | _ => none
    | _ => none
  | .append e esz bytes mutable x y =>
    match elems σ (fr.val y) with
    | none => none
    | some ys =>
      if (ys.all fun y => y.length == esz) then
        if mutable then
          match fr.val x with
          | .msl o off n esz' =>
            match σ[o]?, σ[o + 1]? with
            | some (.cells cs), some (.row e') =>
              if esz' = esz ∧ off = 0 ∧ e' = e ∧ 0 < ys.length ∧ n * esz ≤ cs.length ∧ (cs.take (n * esz)).all calm1 ∧ ys.flatten.all calm1 ∧ (n + ys.length) * bytes ≤ room ∧ n + ys.length < 4611686018427387904 then
                some (.msl σ.length 0 (n + ys.length) esz, fr, σ.set o .dead ++ [.cells (cs.take (n * esz) ++ ys.flatten), .row e])
              else none
            | _, _ => none
          | .sl [] _ =>
            match fr.take x with
            | (.sl [] (some e'), fr) =>
              if e' = e ∧ 0 < ys.length ∧ ys.flatten.all calm1 ∧ ys.length * bytes ≤ room ∧ ys.length < 4611686018427387904 then some (.msl σ.length 0 ys.length esz, fr, σ ++ [.cells ys.flatten, .row e]) else none
            | _ => none
          | _ => none
        else
          let (d, fr) := fr.take x
          match d with
          | .sl xs (some e') =>
            if e' = e ∧ (xs.length + ys.length) * bytes ≤ room ∧ xs.length + ys.length < 4611686018427387904 then some (.sl (xs ++ ys) (some e), fr, σ) else none
          | _ => none
      else none
  | .max xs =>
    match xs.map fr.val with
    | d :: ds => (maxD d ds).map (·, fr, σ)
    | [] => none
  | .min xs =>
    match xs.map fr.val with
    | d :: ds => (minD d ds).map (·, fr, σ)
    | [] => none
  | .bad => none
  | .call f args =>
    if quiet then (doCallQ cal f (args.map fun x => (fr.val x).deep) σ).map fun r => (r, fr, σ) else
    match fr.promoteAll σ args with
    | none => none
    | some (ds, fr, σ) => (doCall cal f ds σ).map fun (r, σ) => (r, fr, σ)
  | .callv x args =>
    match fr.val x with
    | .func f caps =>
      if quiet then (doCallQ cal f ((args.map fun x => (fr.val x).deep) ++ caps) σ).map fun r => (r, fr, σ) else
      match fr.promoteAll σ args with
      | none => none
      | some (ds, fr, σ) => (doCall cal f (ds ++ caps) σ).map fun (r, σ) => (r, fr, σ)
    | _ => none
  | .defer x args =>
    match fr.val x with
    | .func f caps =>
      match fr.promoteAll σ args with
      | none => none
      | some (ds, fr, σ) => some (.junk, { fr with defers := (.func f caps, ds) :: fr.defers }, σ)
    | _ => none
  | .loadA t agg size a =>
    if (fr.val a).inBox t then none else
    match cellsAt fr σ (fr.val a) with
    | none => none
    | some cs =>
      if agg then (if size ≤ cs.length then some (.agg ((cs.take size).map D.strip), fr, σ) else none)
      else match cs with
        | [] => none
        | d :: _ => some (d.strip, fr, σ)
  | .loadL agg size a =>
    if okL (fr.val a) then
      match cellsAt fr σ (fr.val a) with
      | none => none
      | some cs =>
        if agg then (if size ≤ cs.length then some (.agg ((cs.take size).map D.strip), fr, σ) else none)
        else match cs with
          | [] => none
          | d :: _ => some (d.strip, fr, σ)
    else none
  | .storeR size t x =>
    if (fr.val (.tmp t)).inBox t then
      let (d, fr') := fr.take x
      if d.cells.length = size ∧ d.cells.all D.plain then (storeAt fr' σ (fr.val (.tmp t)) d.raw).map fun (fr, σ) => (.junk, fr, σ) else none
    else none
  | .allocR zero =>
    match dst with
    | some t => if (fr.boxAt t).isNone then some (.lptr t 0, fr.setBox t (some zero), σ) else none
    | none => none
  | .callS f args =>
    if (args.map fr.arg).all D.notL then (doCall cal f (args.map fr.arg) σ).map fun (r, σ) => (r, fr, σ) else none
  | .indexStr x i =>
    match intOf? (fr.val i) with
    | none => none
    | some i =>
      if 0 ≤ i then
        match fr.val x with
        | .str s => (s[i.toNat]?).map fun b => (.int .u8 (b.toNat : Int), fr, σ)
        | _ => none
      else none
  | .delete kk m k =>
    match fr.val m with
    | .map o =>
      match σ[o]? with
      | some (.map es) =>
        if keyD kk (fr.val k) then (delKey kk (fr.val k) es).map fun es => (.junk, fr, σ.set o (.map es)) else none
      | _ => none
    | _ => none

  | .callM f args =>
    match fr.promoteAll σ args with
    | none => none
    | some (ds, fr, σ) => if ds.all D.notL then (cal f ds σ).map fun (r, σ) => (r, fr, σ) else none
  | .buildM e esz n zero parts =>
    match fillE (List.replicate n zero) esz (parts.map fun (i, x) => (i, fr.val x)) with
    | some es => if 0 < n ∧ es.flatten.all calm1 then some (.msl σ.length 0 n esz, fr, σ ++ [.cells es.flatten, .row e]) else none
    | none => none
  | .clear esz zero x =>
    match fr.val x with
    | .sl [] _ => some (.junk, fr, σ)
    | .msl o off n esz' =>
      if n = 0 then some (.junk, fr, σ) else
      if esz' = esz then (storeAt fr σ (.ptr o off) (List.replicate n (zero.map D.strip)).flatten).map fun (fr, σ) => (.junk, fr, σ) else none
    | _ => none

def Fr.put (fr : Fr) (dst : Option Nat) (d : D) : Fr :=
  match dst with
  | some t => fr.set t d
  | none => fr

def wantedD (fr : Fr) : Option (Nat × Bool) → Option Bool
  | none => some true
  | some (t, want) =>
    match fr.at t with
    | .bool b => some (b == want)
    | .undef => some false
    | _ => none

def runOp (cal : Cal) (quiet : Bool) (o : MOper) (fr : Fr) (σ : St) : Option (Fr × St) :=
  match wantedD fr o.guard with
  | none => none
  | some false => some (fr.put o.dst .undef, σ)
  | some true =>
    match evalOp cal quiet o.dst o.op fr σ with
    | some (d, fr, σ) => some (fr.put o.dst d, σ)
    | none => none

def runOps (cal : Cal) (quiet : Bool) : List MOper → Fr → St → Option (Fr × St)
  | [], fr, σ => some (fr, σ)
  | o :: ops, fr, σ =>
    match runOp cal quiet o fr σ with
    | some (fr, σ) => runOps cal quiet ops fr σ
    | none => none

def keptD (keep : List Nat) : D → D
  | .lptr s off => if keep.contains s then .lptr s off else .junk
  | d => d

def clearS (keep : List Nat) : Nat → List D → List D
  | _, [] => []
  | i, d :: ds => (if keep.contains i then keptD keep d else .junk) :: clearS keep (i + 1) ds

def clearB (keep : List Nat) : Nat → List (Option (List D)) → List (Option (List D))
  | _, [] => []
  | i, b :: bs => (if keep.contains i then b else none) :: clearB keep (i + 1) bs

def Fr.clear (keep : List Nat) (fr : Fr) : Fr := { fr with slots := clearS keep 0 fr.slots, boxes := clearB keep 0 fr.boxes }

abbrev RunR := Option (AE × Fr × St)

def iter (F : Fr → St → RunR) (keep : List Nat) : Nat → Fr → St → RunR
  | 0, _, _ => none
  | n + 1, fr, σ =>
    match F (fr.clear keep) σ with
    | some (.normal, fr, σ) => iter F keep n fr σ
    | r => r

/-! states that are alike, and a region in every order -/
mutual
def sameD : D → D → Bool
  | .junk, .junk => true
  | .undef, .undef => true
  | .nils e, .nils e' => e == e'
  | .bool b, .bool b' => b == b'
  | .int k n, .int k' n' => decide (k = k') && decide (n = n')
  | .str s, .str s' => s == s'
  | .nilp, .nilp => true
  | .nilm, .nilm => true
  | .nilf, .nilf => true
  | .ptr o f, .ptr o' f' => o == o' && f == f'
  | .lptr o f, .lptr o' f' => o == o' && f == f'
  | .ref cs, .ref cs' => sameDs cs cs'
  | .sl es o, .sl es' o' => o == o' && sameDss es es'
  | .msl a b c d, .msl a' b' c' d' => a == a' && b == b' && c == c' && d == d'
  | .map o, .map o' => o == o'
  | .func f cs, .func f' cs' => f == f' && sameDs cs cs'
  | .agg cs, .agg cs' => sameDs cs cs'
  | .tup cs, .tup cs' => sameDs cs cs'
  | _, _ => false
def sameDs : List D → List D → Bool
  | [], [] => true
  | d :: ds, e :: es => sameD d e && sameDs ds es
  | _, _ => false
def sameDss : List (List D) → List (List D) → Bool
  | [], [] => true
  | d :: ds, e :: es => sameDs d e && sameDss ds es
  | _, _ => false
end

/-- Rows of anything, alike by a test. -/
def sameL {α : Type} (f : α → α → Bool) : List α → List α → Bool
  | [], [] => true
  | a :: as, b :: bs => f a b && sameL f as bs
  | _, _ => false
def sameB : Option (List D) → Option (List D) → Bool
  | none, none => true
  | some a, some b => sameDs a b
  | _, _ => false
def sameO : Obj → Obj → Bool
  | .cells a, .cells b => sameDs a b
  | .map a, .map b => sameL (fun x y => sameD x.1 y.1 && sameD x.2 y.2) a b
  | .dead, .dead => true
  | .row a, .row b => a == b
  | .mapR a, .mapR b => sameL (fun x y => sameD x.1 y.1 && sameD x.2 y.2) a b
  | _, _ => false
def sameFr (a b : Fr) : Bool := sameDs a.slots b.slots && sameL sameB a.boxes b.boxes && sameL (fun x y => sameD x.1 y.1 && sameDs x.2 y.2) a.defers b.defers
def sameS (a b : Fr × St) : Bool := sameFr a.1 b.1 && sameL sameO a.2 b.2
/-- What has been done, and the state. -/
abbrev AnyLay := List (List Bool × (Fr × St))
def anyAdd : AnyLay → List Bool → Fr × St → Option AnyLay
  | [], k, s => some [(k, s)]
  | x :: L, k, s => if x.1 == k then (if sameS s x.2 then some (x :: L) else none) else (anyAdd L k s).map (x :: ·)
def anyMay (pre : List (List Nat)) (m : List Bool) (j : Nat) : Bool := !m.getD j true && (pre.getD j []).all (m.getD · false)
/-- One state and each operation that may come next. -/
def anyFrom (cal : Cal) (q : Bool) (ms : List MOper) (pre : List (List Nat)) (m : List Bool) (s : Fr × St) : List Nat → AnyLay → Option AnyLay
  | [], L => some L
  | j :: js, L =>
    if anyMay pre m j then
      match ms[j]? with
      | some o =>
        match runOp cal q o s.1 s.2 with
        | some s' =>
          match anyAdd L (m.set j true) s' with
          | some L' => anyFrom cal q ms pre m s js L'
          | none => none
        | none => none
      | none => none
    else anyFrom cal q ms pre m s js L
def anyStep (cal : Cal) (q : Bool) (ms : List MOper) (pre : List (List Nat)) : AnyLay → AnyLay → Option AnyLay
  | [], L => some L
  | x :: xs, L =>
    match anyFrom cal q ms pre x.1 x.2 (List.range ms.length) L with
    | some L' => anyStep cal q ms pre xs L'
    | none => none
def anyLays (cal : Cal) (q : Bool) (ms : List MOper) (pre : List (List Nat)) : Nat → AnyLay → Option (Fr × St)
  | 0, [x] => some x.2
  | 0, _ => none
  | n + 1, L =>
    match anyStep cal q ms pre L [] with
    | some L' => anyLays cal q ms pre n L'
    | none => none
/-- A region in every order that its edges allow. -/
def runAny (cal : Cal) (q : Bool) (ms : List MOper) (pre : List (List Nat)) (fr : Fr) (σ : St) : Option (Fr × St) :=
  anyLays cal q ms pre ms.length [(List.replicate ms.length false, (fr, σ))]

def runAlts (cal : Cal) : List (Bool × List MOper) → Fr → St → Option (Fr × St)
  | [], _, _ => none
  | (q, ops) :: alts, fr, σ =>
    match runOps cal q ops fr σ with
    | some r => some r
    | none => runAlts cal alts fr σ

/-! a range over a map, in every order -/
def insAll {α : Type} (x : α) : List α → List (List α)
  | [] => [[x]]
  | y :: ys => (x :: y :: ys) :: (insAll x ys).map (y :: ·)
def permsOf {α : Type} : List α → List (List α)
  | [] => [[]]
  | x :: xs => (permsOf xs).flatMap (insAll x)
def samePairs (a b : List (D × D)) : Bool := sameL (fun x y => sameD x.1 y.1 && sameD x.2 y.2) a b
/-- The iterator lies where it did. -/
def isIt (R : MRange) (n0 : Nat) (fr : Fr) : Bool :=
  match fr.val (.tmp R.it) with
  | .ptr n 0 => n == n0
  | _ => false
/-- The question for the next entry, and its answer. -/
def askM (cal : Cal) (R : MRange) (n0 : Nat) (b : Bool) (t : List D) (fr : Fr) (σ : St) : Option (Fr × St) :=
  if isIt R n0 (fr.clear R.keep) then
    match runOps cal false [R.ext] ((fr.clear R.keep).put (some R.tupN) (.tup (.bool b :: t))) σ with
    | some (fr, σ) =>
      match fr.val (.tmp R.okT) with
      | .bool b' => if b' = b ∧ isIt R n0 fr = true then some (fr, σ) else none
      | _ => none
    | none => none
  else none
/-- The rounds, in the order of the entries given. -/
def roundsM (cal : Cal) (F : Fr → St → RunR) (R : MRange) (n0 : Nat) : List (D × D) → Fr → St → RunR
  | [], fr, σ => (askM cal R n0 false [] fr σ).map fun (fr, σ) => (.normal, fr, σ)
  | e :: p, fr, σ =>
    match askM cal R n0 true [.junk, .junk] fr σ with
    | none => none
    | some (fr, σ) =>
      match runOps cal false R.tail (fr.put (some R.tupE) (.tup [e.1, e.2])) σ with
      | none => none
      | some (fr, σ) =>
        match F fr σ with
        | none => none
        | some (.normal, fr, σ) => roundsM cal F R n0 p fr σ
        | some (.exit i, fr, σ) => if i = R.idIn then roundsM cal F R n0 p fr σ else if i = R.idOut then some (.normal, fr, σ) else some (.exit i, fr, σ)
        | some (.ret, fr, σ) => some (.ret, fr, σ)
/-- Objects from here on are forgotten. -/
def killFrom (n0 : Nat) (σ : St) : St := σ.take n0 ++ List.replicate (σ.length - n0) .dead
/-- What is left of a state behind a function's end: its results. -/
def endOf (R : MRange) (n0 : Nat) (r : AE × Fr × St) : AE × Fr × St :=
  match r with
  | (.ret, fr, σ) => (.ret, fr.clear R.res, if ((fr.clear R.res).slots.all fun d => pureD d || (match d with | .junk => true | _ => false)) && (fr.clear R.res).boxes.all Option.isNone then killFrom n0 σ else σ)
  | r => r
def sameAE : AE → AE → Bool
  | .normal, .normal => true
  | .exit i, .exit j => i == j
  | .ret, .ret => true
  | _, _ => false
def sameR (a b : AE × Fr × St) : Bool := sameAE a.1 b.1 && sameS a.2 b.2
/-- All that is the same. -/
def agreeR : List RunR → RunR
  | [] => none
  | r :: rs =>
    match r with
    | none => none
    | some r => if rs.all fun x => (match x with | some y => sameR r y | none => false) then some r else none
/-- The map may be written on again. -/
def unlockM (o : Nat) (es : List (D × D)) (r : AE × Fr × St) : RunR :=
  match r.2.2[o]? with
  | some (.mapR es') => if samePairs es es' then some (r.1, r.2.1, r.2.2.set o (.map es)) else none
  | _ => none

/-- What comes behind the rounds. -/
def afterM (R : MRange) (o : Nat) (es : List (D × D)) (n0 : Nat) (rest : Fr → St → RunR) (r : RunR) : RunR :=
  match r with
  | none => none
  | some r =>
    match unlockM o es r with
    | some (.normal, fr, σ') => (rest fr σ').map (endOf R n0)
    | some r => some (endOf R n0 r)
    | none => none

/-- The state behind the rounds, with what is read later on alone. -/
def midM (R : MRange) (o : Nat) (es : List (D × D)) (r : RunR) : RunR :=
  match r with
  | none => none
  | some r => (unlockM o es r).map fun r => (r.1, r.2.1.clear R.keep, r.2.2)
/-- What comes behind the rounds: once, if all orders come to the same; else for each. -/
def allM (R : MRange) (o : Nat) (es : List (D × D)) (n0 : Nat) (rest : Fr → St → RunR) (xs : List RunR) : RunR :=
  match agreeR (xs.map (midM R o es)) with
  | some (.normal, fr, σ) => (rest fr σ).map (endOf R n0)
  | some r => some (endOf R n0 r)
  | none => agreeR (xs.map (afterM R o es n0 rest))

def runC (cal : Cal) (fuel : Nat) : MCode → Fr → St → RunR
  | .skip, fr, σ => some (.normal, fr, σ)
  | .region quiet ops, fr, σ => (runOps cal quiet ops fr σ).map fun (fr, σ) => (.normal, fr, σ)
  | .regionA ops pre, fr, σ => (runAny cal false ops pre fr σ).map fun (fr, σ) => (.normal, fr, σ)
  | .regionQ alts ops pre, fr, σ =>
    match runAlts cal alts fr σ with
    | some (fr, σ) => some (.normal, fr, σ)
    | none => (runAny cal false ops pre fr σ).map fun (fr, σ) => (.normal, fr, σ)
  | .seq a b, fr, σ =>
    match runC cal fuel a fr σ with
    | some (.normal, fr, σ) => runC cal fuel b fr σ
    | r => r
  | .cond x a b, fr, σ =>
    match fr.val x with
    | .bool true => runC cal fuel a fr σ
    | .bool false => runC cal fuel b fr σ
    | _ => none
  | .block id c, fr, σ =>
    match runC cal fuel c fr σ with
    | some (.exit i, fr, σ) => if i = id then some (.normal, fr, σ) else some (.exit i, fr, σ)
    | r => r
  | .loop keep c, fr, σ => iter (runC cal fuel c) keep fuel fr σ
  | .exit id, fr, σ => some (.exit id, fr, σ)
  | .ret, fr, σ => some (.ret, fr, σ)
  | .rangeM R body rest, fr, σ =>
    match runOps cal false R.pre fr σ with
    | none => none
    | some (fr, σ) =>
      match fr.val R.m with
      | .map o =>
        match σ[o]? with
        | some (.map es) =>
          allM R o es σ.length (runC cal fuel rest) ((permsOf es).map fun p => roundsM cal (runC cal fuel body) R σ.length p (fr.put (some R.it) (.ptr σ.length 0)) (σ.set o (.mapR es) ++ [.dead]))
        | _ => none
      | _ => none
  | .nat N, fr, σ => N fr σ

/-- The deferred calls of a function that returns. -/
def runDefers (cal : Cal) : List (D × List D) → St → Option St
  | [], σ => some σ
  | (.func f caps, args) :: ds, σ =>
    if (args ++ caps).all D.notL then
      match cal f (args ++ caps) σ with
      | some (_, σ) => runDefers cal ds σ
      | none => none
    else none
  | _ :: _, _ => none

/-- A result variable's value. -/
def resD (fr : Fr) (σ : St) : MRes → Option D
  | .tmp t => some (fr.at t).bare
  | .cell t agg size =>
    match cellsAt fr σ (fr.at t) with
    | none => none
    | some cs =>
      if agg then (if size ≤ cs.length then some (.agg ((cs.take size).map D.strip)) else none)
      else match cs with
        | [] => none
        | d :: _ => some d.strip

def resAll (fr : Fr) (σ : St) : List MRes → Option (List D)
  | [] => some []
  | r :: rs =>
    match resD fr σ r with
    | some d => (resAll fr σ rs).map (d.strip :: ·)
    | none => none

/-- What a function answers. The address of a variable of its own: that variable becomes an object. -/
def resultOf (fr : Fr) (σ : St) : List MRes → Option (D × St)
  | [r] =>
    match resD fr σ r with
    | some (.lptr t off) => (fr.promote σ t).map fun (_, σ') => (.ptr σ.length off, σ')
    | some d => some (d, σ)
    | none => none
  | rs =>
    match resAll fr σ rs with
    | some ds => if ds.all D.notL then some (.tup ds, σ) else none
    | none => none

abbrev Table := Nat → Option MFunc

def enterFr (m : MFunc) (args : List D) : Fr := { slots := args.map D.strip ++ List.replicate (m.ntmps - args.length) .junk, boxes := List.replicate m.ntmps none, defers := [] }

def runBody (cal : Cal) (fuel : Nat) (m : MFunc) (args : List D) (σ : St) : Option (Fr × St) :=
  if args.length = m.nparams ∧ m.nparams ≤ m.ntmps then
    match runC cal fuel m.body (enterFr m args) σ with
    | some (.exit _, _, _) => none
    | some (_, fr, σ) => some (fr, σ)
    | none => none
  else none

/-- It is told by no function. -/
def MCode.told : MCode → Bool
  | .seq a b => a.told || b.told
  | .cond _ a b => a.told || b.told
  | .block _ c => c.told
  | .loop _ c => c.told
  | .rangeM _ a b => a.told || b.told
  | .nat _ => true
  | _ => false

/-- A call of a function that leaves no deferred calls. -/
def plainN (T : Table) (cal : Cal) (fuel : Nat) : Cal := fun f args σ =>
  match T f with
  | none => none
  | some m =>
    if m.body.told then none else
    match runBody cal fuel m args σ with
    | some (fr, σ) => if fr.defers.isEmpty then resultOf fr σ m.results else none
    | none => none

def callN (T : Table) : Nat → Cal
  | 0, _, _, _ => none
  | n + 1, f, args, σ =>
    match T f with
    | none => none
    | some m =>
      match runBody (callN T n) n m args σ with
      | some (fr, σ) =>
        if fr.defers.isEmpty then resultOf fr σ m.results else
        if m.body.told then none else
        match runDefers (plainN T (callN T n) n) fr.defers σ with
        | some σ => resultOf fr σ m.results
        | none => none
      | none => none

/-- slices.Clone, without its question. -/
def cloneA (e : Nat) : MCode := .region false [⟨some 2, .assign (.const (.sl [] (some e))), none⟩]
def cloneD (e esz bytes : Nat) (z : List D) : MCode := .seq (.region false [⟨some 5, .buildSlice e esz 0 z [], none⟩, ⟨some 6, .move (.tmp 0) false, none⟩, ⟨some 7, .append e esz bytes false (.tmp 5) (.tmp 6), none⟩, ⟨some 2, .assign (.tmp 7), none⟩]) .ret
def mclone (e esz bytes : Nat) (z : List D) : MFunc := ⟨1, 8, [.tmp 2], .seq (cloneA e) (cloneD e esz bytes z)⟩

end Go.Abs

/-
  What a value of the model stands for: the relation between values and the interpreter's data, and what it keeps when memory grows.
-/
namespace Go.Abs
open Go Go.RowKit

inductive Tag where
  | free | other | hand
  | obj (o : Nat)
  | box (t : Nat)
  | sbuf (t : Nat)
  | bbuf (t j : Nat)
  | obuf (o j : Nat)
  /-- a map that is ranged over -/
  | ro (o : Nat)
  deriving DecidableEq

/-- Whose a block is: this call's to write, or not. -/
def Tag.mine : Tag → Bool
  | .free | .other | .ro _ => false
  | _ => true

structure Gh where
  I : Nat → Nat → Option Value
  n : Nat
  μ : Nat → Nat
  sz : Nat → Nat
  β : Nat → Nat
  ω : Nat → Tag
  /-- the deferred calls that lie below this frame's own -/
  base : List Deferred := []

/-- A list of values stands for a list of data, one by one. -/
def AllRep (R : Value → D → Prop) (vs : List Value) (ds : List D) : Prop :=
  vs.length = ds.length ∧ ∀ (i : Nat) (v : Value) (d : D), vs[i]? = some v → ds[i]? = some d → R v d

inductive Rep (g : Gh) : Value → D → Prop
  | junk (v : Value) : Rep g v .junk
  | undef : Rep g _root_.Go.undef .undef
  | nils (e : Nat) : Rep g (.slice none 0 0) (.nils e)
  | bool (b : Bool) : Rep g (.bool b) (.bool b)
  | int (k : IntKind) (n : Int) : Rep g (.int k n) (.int k n)
  | str (s : ByteArray) : Rep g (.string s) (.str s.data.toList)
  | nilp : Rep g (.pointer none) .nilp
  | nilm : Rep g (.map none) .nilm
  | nilf : Rep g .nilFunc .nilf
  | val (v : Value) : Rep g v (.val v)
  | ptr (o off : Nat) (h : o < g.n) : Rep g (.pointer (some ⟨g.μ o, off, none⟩)) (.ptr o off)
  | lptr (t off : Nat) : Rep g (.pointer (some ⟨g.β t, off, none⟩)) (.lptr t off)
  | ref (b off : Nat) (cs : List D) (V : Nat → Value) (hI : ∀ (i : Nat) (d : D), cs[i]? = some d → g.I b (off + i) = some (V i))
      (hR : ∀ (i : Nat) (d : D), cs[i]? = some d → Rep g (V i) d) (hp : cs.all D.pure1 = true) : Rep g (.pointer (some ⟨b, off, none⟩)) (.ref cs)
  | sl (a : Option Addr) (len cap b off esz : Nat) (es : List (List D)) (own : Option Nat) (V : Nat → Nat → Value) (hl : len = es.length)
      (hc : len ≤ cap) (hn : a = none → cap = 0) (ha : es ≠ [] → a = some ⟨b, off, none⟩) (he : ∀ e ∈ es, e.length = esz ∧ e.all D.pure1 = true)
      (hI : ∀ (i : Nat) (e : List D) (j : Nat) (d : D), es[i]? = some e → e[j]? = some d → g.I b (off + i * esz + j) = some (V i j))
      (hR : ∀ (i : Nat) (e : List D) (j : Nat) (d : D), es[i]? = some e → e[j]? = some d → Rep g (V i j) d) : Rep g (.slice a len cap) (.sl es own)
  | msl (o off n esz cap : Nat) (h : o < g.n) (hc : n ≤ cap) (hs : off + cap * esz ≤ g.sz o) : Rep g (.slice (some ⟨g.μ o, off, none⟩) n cap) (.msl o off n esz)
  | map (o : Nat) (h : o < g.n) : Rep g (.map (some (g.μ o))) (.map o)
  | func (f : Nat) (vs : Array Value) (ds : List D) (hl : vs.toList.length = ds.length)
      (hR : ∀ (i : Nat) (v : Value) (d : D), vs.toList[i]? = some v → ds[i]? = some d → Rep g v d) (hp : ds.all D.notL = true) : Rep g (.func (.func f) #[] vs) (.func f ds)
  | agg (vs : Array Value) (ds : List D) (hl : vs.toList.length = ds.length)
      (hR : ∀ (i : Nat) (v : Value) (d : D), vs.toList[i]? = some v → ds[i]? = some d → Rep g v d) (hp : ds.all D.plain = true) : Rep g (.agg vs) (.agg ds)
  | tup (vs : Array Value) (ds : List D) (hl : vs.toList.length = ds.length)
      (hR : ∀ (i : Nat) (v : Value) (d : D), vs.toList[i]? = some v → ds[i]? = some d → Rep g v d) (hp : ds.all D.notL = true) : Rep g (.tuple vs) (.tup ds)

theorem notL_of_pure1 {d : D} (h : d.pure1 = true) : d.notL = true := by cases d <;> simp_all [D.pure1, D.notL]
theorem notL_of_plain {d : D} (h : d.plain = true) : d.notL = true := by cases d <;> simp_all [D.plain, D.notL]
theorem plain_of_pure1 {d : D} (h : d.pure1 = true) : d.plain = true := by cases d <;> simp_all [D.pure1, D.plain]

theorem all_get {p : D → Bool} {ds : List D} (h : ds.all p = true) {i : Nat} {d : D} (hd : ds[i]? = some d) : p d = true :=
  List.all_eq_true.1 h d (List.mem_of_getElem? hd)

/-- What grows. -/
structure Gh.Le (g g' : Gh) : Prop where
  I : ∀ (b off : Nat) (v : Value), g.I b off = some v → g'.I b off = some v
  n : g.n ≤ g'.n
  μ : ∀ o, o < g.n → g'.μ o = g.μ o
  sz : ∀ o, o < g.n → g'.sz o = g.sz o

theorem Gh.Le.refl (g : Gh) : g.Le g := ⟨fun _ _ _ h => h, Nat.le_refl _, fun _ _ => rfl, fun _ _ => rfl⟩
theorem Gh.Le.trans {a b c : Gh} (h : a.Le b) (k : b.Le c) : a.Le c :=
  ⟨fun _ _ _ x => k.I _ _ _ (h.I _ _ _ x), Nat.le_trans h.n k.n, fun o ho => (k.μ o (Nat.lt_of_lt_of_le ho h.n)).trans (h.μ o ho), fun o ho => (k.sz o (Nat.lt_of_lt_of_le ho h.n)).trans (h.sz o ho)⟩

theorem Rep.mono {g g' : Gh} (hg : g.Le g') {v : Value} {d : D} (h : Rep g v d) : (∀ t off, d = .lptr t off → g'.β t = g.β t) → Rep g' v d := by
  induction h with
  | junk v => exact fun _ => .junk v
  | undef => exact fun _ => .undef
  | nils e => exact fun _ => .nils e
  | bool b => exact fun _ => .bool b
  | int k n => exact fun _ => .int k n
  | str s => exact fun _ => .str s
  | nilp => exact fun _ => .nilp
  | nilm => exact fun _ => .nilm
  | nilf => exact fun _ => .nilf
  | val v => exact fun _ => .val v
  | ptr o off h => intro _; rw [← hg.μ o h]; exact .ptr o off (Nat.lt_of_lt_of_le h hg.n)
  | lptr t off => intro hb; rw [← hb t off rfl]; exact .lptr t off
  | ref b off cs V hI hR hp ih =>
    exact fun _ => .ref b off cs V (fun i d hd => hg.I _ _ _ (hI i d hd)) (fun i d hd => ih i d hd (fun t off e => by subst e; exact absurd (notL_of_pure1 (all_get hp hd)) (by simp [D.notL]))) hp
  | sl a len cap b off esz es own V hl hc hn ha he hI hR ih =>
    exact fun _ => .sl a len cap b off esz es own V hl hc hn ha he (fun i e j d h1 h2 => hg.I _ _ _ (hI i e j d h1 h2))
      (fun i e j d h1 h2 => ih i e j d h1 h2 (fun t off x => by subst x; exact absurd (notL_of_pure1 (all_get (he e (List.mem_of_getElem? h1)).2 h2)) (by simp [D.notL])))
  | msl o off n esz cap h hc hs => intro _; rw [← hg.μ o h]; exact .msl o off n esz cap (Nat.lt_of_lt_of_le h hg.n) hc (by rw [hg.sz o h]; exact hs)
  | map o h => intro _; rw [← hg.μ o h]; exact .map o (Nat.lt_of_lt_of_le h hg.n)
  | func f vs ds hl hR hp ih =>
    exact fun _ => .func f vs ds hl (fun i v d h1 h2 => ih i v d h1 h2 (fun t off e => by subst e; exact absurd (all_get hp h2) (by simp [D.notL]))) hp
  | agg vs ds hl hR hp ih =>
    exact fun _ => .agg vs ds hl (fun i v d h1 h2 => ih i v d h1 h2 (fun t off e => by subst e; exact absurd (all_get hp h2) (by simp [D.plain]))) hp
  | tup vs ds hl hR hp ih =>
    exact fun _ => .tup vs ds hl (fun i v d h1 h2 => ih i v d h1 h2 (fun t off e => by subst e; exact absurd (all_get hp h2) (by simp [D.notL]))) hp

theorem Rep.out1 {g g' : Gh} (hI : ∀ (b off : Nat) (v : Value), g.I b off = some v → g'.I b off = some v) {v : Value} {d : D} (h : Rep g v d) : d.pure1 = true → Rep g' v d := by
  induction h with
  | junk v => exact fun _ => .junk v
  | undef => exact fun _ => .undef
  | nils e => exact fun _ => .nils e
  | bool b => exact fun _ => .bool b
  | int k n => exact fun _ => .int k n
  | str s => exact fun _ => .str s
  | nilp => exact fun _ => .nilp
  | nilm => exact fun _ => .nilm
  | nilf => exact fun _ => .nilf
  | val v => exact fun _ => .val v
  | ptr o off h => intro hp; simp [D.pure1] at hp
  | lptr t off => intro hp; simp [D.pure1] at hp
  | ref b off cs V hI' hR hp ih => exact fun _ => .ref b off cs V (fun i d hd => hI _ _ _ (hI' i d hd)) (fun i d hd => ih i d hd (all_get hp hd)) hp
  | sl a len cap b off esz es own V hl hc hn ha he hI' hR ih =>
    exact fun _ => .sl a len cap b off esz es own V hl hc hn ha he (fun i e j d h1 h2 => hI _ _ _ (hI' i e j d h1 h2))
      (fun i e j d h1 h2 => ih i e j d h1 h2 (all_get (he e (List.mem_of_getElem? h1)).2 h2))
  | msl o off n esz cap h hc hs => intro hp; simp [D.pure1] at hp
  | map o h => intro hp; simp [D.pure1] at hp
  | func f vs ds hl hR hp ih =>
    intro hq
    cases ds with
    | nil => exact .func f vs [] hl (fun i v d _ h2 => by simp at h2) rfl
    | cons a b => simp [D.pure1] at hq
  | agg vs ds hl hR hp ih => intro hq; simp [D.pure1] at hq
  | tup vs ds hl hR hp ih => intro hq; simp [D.pure1] at hq

theorem Rep.outA {g g' : Gh} (hI : ∀ (b off : Nat) (v : Value), g.I b off = some v → g'.I b off = some v) {v : Value} {cs : List D} (h : Rep g v (.agg cs)) (hp : cs.all D.pure1 = true) : Rep g' v (.agg cs) := by
  cases h with
  | agg vs _ hl hR hq => exact .agg vs cs hl (fun i v d h1 h2 => (hR i v d h1 h2).out1 hI (all_get hp h2)) hq

theorem Rep.out {g g' : Gh} (hI : ∀ (b off : Nat) (v : Value), g.I b off = some v → g'.I b off = some v) {v : Value} {d : D} (h : Rep g v d) (hp : pureD d = true) : Rep g' v d := by
  cases d with
  | agg cs => exact h.outA hI hp
  | tup ds =>
    cases h with
    | tup vs _ hl hR hq =>
      refine .tup vs ds hl (fun i v d h1 h2 => ?_) hq
      have hd := List.all_eq_true.1 hp d (List.mem_of_getElem? h2)
      cases d with
      | agg cs => exact (hR i v _ h1 h2).outA hI hd
      | _ => exact (hR i v _ h1 h2).out1 hI hd
  | _ => exact h.out1 hI hp

theorem Rep.strip {g : Gh} {v : Value} {d : D} (h : Rep g v d) : Rep g v d.strip := by
  cases h with
  | sl a len cap b off esz es own V hl hc hn ha he hI hR => exact .sl a len cap b off esz es none V hl hc hn ha he hI hR
  | nils e => exact .sl none 0 0 0 0 0 [] _ (fun _ _ => _root_.Go.undef) rfl (Nat.le_refl _) (fun _ => rfl) (fun h => absurd rfl h) (by simp) (by simp) (by simp)
  | _ => constructor <;> assumption

theorem Rep.unstrip {g : Gh} {v : Value} {es : List (List D)} {o : Option Nat} (o' : Option Nat) (h : Rep g v (.sl es o)) : Rep g v (.sl es o') := by
  cases h with
  | sl a len cap b off esz es own V hl hc hn ha he hI hR => exact .sl a len cap b off esz es o' V hl hc hn ha he hI hR

theorem strip_strip (d : D) : d.strip.strip = d.strip := by cases d <;> rfl
theorem Rep.nil {g : Gh} (own : Option Nat) : Rep g (.slice none 0 0) (.sl [] own) :=
  .sl none 0 0 0 0 0 [] _ (fun _ _ => _root_.Go.undef) rfl (Nat.le_refl _) (fun _ => rfl) (fun h => absurd rfl h) (by simp) (by simp) (by simp)
theorem bare_notL (d : D) : d.bare.notL = d.notL := by cases d <;> rfl
theorem Rep.bare {g : Gh} {v : Value} {d : D} (h : Rep g v d) : Rep g v d.bare := by
  cases h with
  | agg vs ds hl hR hp =>
    refine .agg vs _ (by simpa using hl) (fun i v d h1 h2 => ?_) ?_
    · simp only [List.getElem?_map, Option.map_eq_some_iff] at h2
      obtain ⟨d0, h2, rfl⟩ := h2
      exact (hR i v d0 h1 h2).strip
    · rw [List.all_map]
      refine List.all_eq_true.2 fun x hx => ?_
      have := List.all_eq_true.1 hp x hx
      cases x <;> simp_all [D.strip, D.plain]
  | sl a len cap b off esz es own V hl hc hn ha he hI hR => exact .sl a len cap b off esz es own V hl hc hn ha he hI hR
  | _ => constructor <;> assumption
theorem Rep.deep {g : Gh} {v : Value} {d : D} (h : Rep g v d) : Rep g v d.deep := h.bare.strip
theorem Rep.deep_of_strip {g : Gh} {v : Value} {d : D} (h : Rep g v d.strip) : Rep g v d.deep := by
  cases d with
  | agg cs => exact h.deep
  | _ => exact h
theorem deep_strip (d : D) : d.deep.strip = d.deep := by cases d <;> rfl
theorem deep_notL (d : D) : d.deep.notL = d.notL := by cases d <;> rfl
theorem pure1_strip (d : D) : d.strip.pure1 = d.pure1 := by cases d <;> rfl
theorem plain_strip (d : D) : d.strip.plain = d.plain := by cases d <;> rfl
theorem notL_strip (d : D) : d.strip.notL = d.notL := by cases d <;> rfl

theorem Rep.one {g : Gh} {v : Value} {d : D} (h : Rep g v d) (hp : d.plain = true) : v.oneCell' = true := by
  cases h <;> first | rfl | simp [D.plain] at hp

theorem Rep.cells_one {g : Gh} {v : Value} {d : D} (h : Rep g v d) (hp : d.plain = true) : v.cells = #[v] := by
  cases h <;> first | rfl | simp [D.plain] at hp

/-- The cells of a value stand for the cells of the data. -/
theorem Rep.cells {g : Gh} {v : Value} {d : D} (h : Rep g v d) (hp : d.cells.all D.plain = true) : AllRep (Rep g) v.cells.toList d.cells := by
  cases d with
  | agg ds =>
    cases h with
    | agg vs _ hl hR hq =>
      refine ⟨by simpa [D.cells, Value.cells] using hl, fun i v d h1 h2 => ?_⟩
      simp only [D.cells, List.getElem?_map, Option.map_eq_some_iff] at h2
      obtain ⟨d0, h2, rfl⟩ := h2
      exact (hR i v d0 h1 h2).strip
  | _ =>
    have hp' := List.all_eq_true.1 hp _ (List.mem_singleton.2 rfl)
    rw [h.cells_one hp']
    refine ⟨rfl, fun i v' d' h1 h2 => ?_⟩
    cases i with
    | zero => simp [D.cells] at h1 h2; subst h1 h2; exact h
    | succ i => simp [D.cells] at h2

end Go.Abs

/-
  A map's entries in another order: what is found, put, taken away.
-/
namespace Go.Abs

/-- No two keys are the same. -/
def KeysOK (es : List (D × D)) : Prop := (es.map (·.1)).Pairwise fun a b => ∃ kk, eqKey kk a b = some false
theorem leaf_same {k : LK} {a b : D} (ha : k.fits a = true) (hb : k.fits b = true) (h : leafEq a b = true) : a = b := by
  cases k <;> cases a <;> simp only [LK.fits, Bool.false_eq_true] at ha <;> cases b <;> simp only [LK.fits, Bool.false_eq_true] at hb <;> simp_all [leafEq]
theorem leaf_refl {k : LK} {a : D} (ha : k.fits a = true) : leafEq a a = true := by
  cases k <;> cases a <;> simp only [LK.fits, Bool.false_eq_true] at ha <;> simp [leafEq]
theorem leaf_symm (a b : D) : leafEq a b = leafEq b a := by
  cases a <;> cases b <;> simp only [leafEq] <;> rw [Bool.beq_comm]
theorem leaves_same : ∀ {ls : List LK} {xs ys : List D}, fitL ls xs = true → fitL ls ys = true → eqLs xs ys = true → xs = ys
  | [], [], [], _, _, _ => rfl
  | [], [], _ :: _, _, h, _ => by simp [fitL] at h
  | [], _ :: _, _, h, _, _ => by simp [fitL] at h
  | _ :: _, [], _, h, _, _ => by simp [fitL] at h
  | _ :: _, _ :: _, [], _, h, _ => by simp [fitL] at h
  | k :: ls, x :: xs, y :: ys, h1, h2, h3 => by
    simp only [fitL, eqLs, Bool.and_eq_true] at h1 h2 h3
    rw [leaf_same h1.1 h2.1 h3.1, leaves_same h1.2 h2.2 h3.2]
theorem leaves_symm : ∀ (xs ys : List D), eqLs xs ys = eqLs ys xs
  | [], [] => rfl
  | [], _ :: _ => rfl
  | _ :: _, [] => rfl
  | x :: xs, y :: ys => by simp only [eqLs, leaf_symm x y, leaves_symm xs ys]
theorem eqKey_true {kk : Nat} {a b : D} (h : eqKey kk a b = some true) : a = b := by
  unfold eqKey at h
  split at h
  · split at h
    · simp only [Option.some.injEq, beq_iff_eq] at h
      simp_all
    · cases h
  · simp only [Option.some.injEq, beq_iff_eq] at h
    simp_all
  · simp only [Option.some.injEq, beq_iff_eq] at h
    simp_all
  · split at h
    · rename_i hf
      simp only [Option.some.injEq] at h
      rw [leaves_same hf.1 hf.2 h]
    · cases h
  · cases h
theorem eqKey_symm {kk : Nat} {a b : D} {r : Bool} (h : eqKey kk a b = some r) : eqKey kk b a = some r := by
  unfold eqKey at h
  split at h
  · split at h
    · rename_i e
      subst e
      simp only [Option.some.injEq] at h
      subst h
      simp only [eqKey, if_true]
      rw [Bool.beq_comm]
    · cases h
  · simp only [Option.some.injEq] at h
    subst h
    simp only [eqKey]
    rw [Bool.beq_comm]
  · simp only [Option.some.injEq] at h
    subst h
    simp only [eqKey]
    rw [Bool.beq_comm]
  · split at h
    · rename_i hf
      simp only [Option.some.injEq] at h
      subst h
      simp only [eqKey, if_pos (And.intro hf.2 hf.1), leaves_symm]
    · cases h
  · cases h
/-- Is it a key of that kind? -/
def kindD : Nat → D → Bool
  | 0, .int _ _ | 1, .str _ | 2, .bool _ => true
  | n + 3, .agg xs => fitL (keyLs n) xs
  | _, _ => false
theorem eqKey_kind {kk : Nat} {a b : D} {r : Bool} (h : eqKey kk a b = some r) : kindD kk a = true ∧ kindD kk b = true := by
  unfold eqKey at h
  split at h
  · exact ⟨rfl, rfl⟩
  · exact ⟨rfl, rfl⟩
  · exact ⟨rfl, rfl⟩
  · split at h
    · assumption
    · cases h
  · cases h
theorem fits_unique {k l : LK} {d : D} (h1 : k.fits d = true) (h2 : l.fits d = true) : k = l := by
  cases d <;> cases k <;> simp only [LK.fits, Bool.false_eq_true] at h1 <;> cases l <;> simp only [LK.fits, Bool.false_eq_true] at h2 <;> simp_all
theorem fit_unique : ∀ {l1 l2 : List LK} {xs : List D}, fitL l1 xs = true → fitL l2 xs = true → l1 = l2
  | [], [], _, _, _ => rfl
  | [], _ :: _, [], _, h => by simp [fitL] at h
  | [], _ :: _, _ :: _, h, _ => by simp [fitL] at h
  | _ :: _, _, [], h, _ => by simp [fitL] at h
  | _ :: _, [], _ :: _, _, h => by simp [fitL] at h
  | k :: l1, l :: l2, x :: xs, h1, h2 => by
    simp only [fitL, Bool.and_eq_true] at h1 h2
    rw [fits_unique h1.1 h2.1, fit_unique h1.2 h2.2]
theorem eqKey_one {kk kk' : Nat} {a b : D} (h : eqKey kk a a = some true) (k : eqKey kk' a b = some false) : eqKey kk a b = some false := by
  have h1 := (eqKey_kind h).1
  have h2 := (eqKey_kind k).1
  unfold kindD at h1 h2
  split at h1 <;> first | (cases h1; done) | skip
  · split at h2 <;> simp_all
  · split at h2 <;> simp_all
  · split at h2 <;> simp_all
  · rename_i n xs
    split at h2 <;> first | (cases h2; done) | (simp_all; done) | skip
    rename_i m ys he
    cases he
    have e : keyLs n = keyLs m := fit_unique h1 h2
    unfold eqKey at k ⊢
    cases b <;> first | (cases k; done) | skip
    simp only at k ⊢
    rw [e]
    exact k
theorem keys_symm {a b : D} (h : ∃ kk, eqKey kk a b = some false) : ∃ kk, eqKey kk b a = some false := by
  obtain ⟨kk, h⟩ := h
  exact ⟨kk, eqKey_symm h⟩
theorem KeysOK.perm {a b : List (D × D)} (h : a.Perm b) (k : KeysOK a) : KeysOK b := by
  unfold KeysOK at k ⊢
  exact ((h.map (·.1)).pairwise_iff (fun h => keys_symm h)).1 k
theorem KeysOK.tail {e : D × D} {es : List (D × D)} (h : KeysOK (e :: es)) : KeysOK es := by
  unfold KeysOK at h ⊢
  rw [List.map_cons, List.pairwise_cons] at h
  exact h.2
theorem KeysOK.two {a b : D × D} {es : List (D × D)} (h : KeysOK (a :: b :: es)) : ∃ kk, eqKey kk a.1 b.1 = some false := by
  unfold KeysOK at h
  rw [List.map_cons, List.pairwise_cons] at h
  exact h.1 _ (by simp)
theorem hit_miss {kk : Nat} {x : D} {a b : D} (h : eqKey kk x a = some true) (k : ∃ kk, eqKey kk a b = some false) : eqKey kk x b = some false := by
  have e := eqKey_true h
  subst e
  obtain ⟨kk', k⟩ := k
  exact eqKey_one h k
theorem findKey_perm {kk : Nat} {x : D} {a b : List (D × D)} (hp : a.Perm b) : ∀ {r : Option D}, KeysOK a → findKey kk x a = some r → findKey kk x b = some r := by
  induction hp with
  | nil => exact fun _ h => h
  | cons e _ ih =>
    intro r hk h
    obtain ⟨ke, ve⟩ := e
    simp only [findKey] at h ⊢
    split at h
    · rename_i h1; (try rw [h1]); exact h
    · rename_i h1; (try rw [h1]); exact ih hk.tail h
    · cases h
  | swap a b l =>
    intro r hk h
    obtain ⟨ka, va⟩ := a
    obtain ⟨kb, vb⟩ := b
    have h2 := hk.two
    simp only [findKey] at h ⊢
    split at h
    · rename_i h1
      rw [hit_miss h1 h2]; try rw [h1]
      exact h
    · rename_i h1
      split at h
      · rename_i h3; (try rw [h3]); exact h
      · rename_i h3; (try rw [h3]); (try rw [h1]); exact h
      · cases h
    · cases h
  | trans p q ih1 ih2 =>
    intro r hk h
    exact ih2 (hk.perm p) (ih1 hk h)
theorem putKey_perm {kk : Nat} {x y : D} {a b : List (D × D)} (hp : a.Perm b) : ∀ {r : List (D × D)}, KeysOK a → putKey kk x y a = some r → ∃ r', putKey kk x y b = some r' ∧ r.Perm r' := by
  induction hp with
  | nil => exact fun _ h => ⟨_, h, .refl _⟩
  | @cons e l l' p ih =>
    intro r hk h
    obtain ⟨ke, ve⟩ := e
    simp only [putKey] at h ⊢
    split at h
    · rename_i h1
      cases h
      try rw [h1]
      exact ⟨_, rfl, p.cons _⟩
    · rename_i h1
      try rw [h1]
      cases h0 : putKey kk x y l with
      | none => rw [h0] at h; cases h
      | some r0 =>
        rw [h0] at h
        cases h
        obtain ⟨r', h3, h4⟩ := ih hk.tail h0
        try rw [h3]
        exact ⟨_, rfl, h4.cons _⟩
    · cases h
  | swap a b l =>
    intro r hk h
    obtain ⟨ka, va⟩ := a
    obtain ⟨kb, vb⟩ := b
    have h2 := hk.two
    simp only [putKey] at h ⊢
    split at h
    · rename_i h1
      cases h
      rw [hit_miss h1 h2]; try rw [h1]
      exact ⟨_, rfl, List.Perm.swap _ _ _⟩
    · rename_i h1
      split at h
      · rename_i h3
        cases h
        try rw [h3]
        exact ⟨_, rfl, List.Perm.swap _ _ _⟩
      · rename_i h3
        (try rw [h3]); try rw [h1]
        cases h0 : putKey kk x y l with
        | none => rw [h0] at h; cases h
        | some r0 =>
          rw [h0] at h
          cases h
          exact ⟨_, rfl, List.Perm.swap _ _ _⟩
      · cases h
    · cases h
  | trans p q ih1 ih2 =>
    intro r hk h
    obtain ⟨r', h1, h2⟩ := ih1 hk h
    obtain ⟨r2, h3, h4⟩ := ih2 (hk.perm p) h1
    exact ⟨r2, h3, h2.trans h4⟩
theorem delKey_perm {kk : Nat} {x : D} {a b : List (D × D)} (hp : a.Perm b) : ∀ {r : List (D × D)}, KeysOK a → delKey kk x a = some r → ∃ r', delKey kk x b = some r' ∧ r.Perm r' := by
  induction hp with
  | nil => exact fun _ h => ⟨_, h, .refl _⟩
  | @cons e l l' p ih =>
    intro r hk h
    obtain ⟨ke, ve⟩ := e
    simp only [delKey] at h ⊢
    split at h
    · rename_i h1
      cases h
      try rw [h1]
      exact ⟨_, rfl, p⟩
    · rename_i h1
      try rw [h1]
      cases h0 : delKey kk x l with
      | none => rw [h0] at h; cases h
      | some r0 =>
        rw [h0] at h
        cases h
        obtain ⟨r', h3, h4⟩ := ih hk.tail h0
        try rw [h3]
        exact ⟨_, rfl, h4.cons _⟩
    · cases h
  | swap a b l =>
    intro r hk h
    obtain ⟨ka, va⟩ := a
    obtain ⟨kb, vb⟩ := b
    have h2 := hk.two
    simp only [delKey] at h ⊢
    split at h
    · rename_i h1
      cases h
      rw [hit_miss h1 h2]; try rw [h1]
      exact ⟨_, rfl, .refl _⟩
    · rename_i h1
      split at h
      · rename_i h3
        cases h
        try rw [h3]
        exact ⟨_, rfl, .refl _⟩
      · rename_i h3
        (try rw [h3]); try rw [h1]
        cases h0 : delKey kk x l with
        | none => rw [h0] at h; cases h
        | some r0 =>
          rw [h0] at h
          cases h
          exact ⟨_, rfl, List.Perm.swap _ _ _⟩
      · cases h
    · cases h
  | trans p q ih1 ih2 =>
    intro r hk h
    obtain ⟨r', h1, h2⟩ := ih1 hk h
    obtain ⟨r2, h3, h4⟩ := ih2 (hk.perm p) h1
    exact ⟨r2, h3, h2.trans h4⟩
theorem findKey_at {kk : Nat} {x : D} : ∀ {es : List (D × D)} {r : Option D}, findKey kk x es = some r →
    (r = none ∧ ∀ kd ∈ es, eqKey kk x kd.1 = some false) ∨ ∃ (j : Nat) (kd : D × D), es[j]? = some kd ∧ r = some kd.2 ∧ eqKey kk x kd.1 = some true ∧ ∀ (i : Nat) (kd' : D × D), i < j → es[i]? = some kd' → eqKey kk x kd'.1 = some false
  | [], r, h => by
    simp only [findKey, Option.some.injEq] at h
    exact .inl ⟨h.symm, fun kd hk => by simp at hk⟩
  | (k', v') :: es, r, h => by
    simp only [findKey] at h
    split at h
    · rename_i hq
      cases h
      exact .inr ⟨0, (k', v'), rfl, rfl, hq, fun i kd' hi => by omega⟩
    · rename_i hq
      rcases findKey_at h with ⟨h1, h2⟩ | ⟨j, kd, h1, h2, h3, h4⟩
      · refine .inl ⟨h1, fun kd hk => ?_⟩
        rcases List.mem_cons.1 hk with rfl | hk
        · exact hq
        · exact h2 kd hk
      · refine .inr ⟨j + 1, kd, h1, h2, h3, fun i kd' hi he => ?_⟩
        cases i with
        | zero => simp at he; subst he; exact hq
        | succ i => exact h4 i kd' (by omega) (by simpa using he)
    · cases h
theorem putKey_hit {kk : Nat} {x y : D} : ∀ {es : List (D × D)} {j : Nat} {kd : D × D}, es[j]? = some kd → eqKey kk x kd.1 = some true → (∀ (i : Nat) (kd' : D × D), i < j → es[i]? = some kd' → eqKey kk x kd'.1 = some false) → putKey kk x y es = some (es.set j (x, y))
  | [], j, kd, h, _, _ => by simp at h
  | (k', v') :: es, 0, kd, h, h1, _ => by
    simp at h
    subst h
    simp only [putKey, h1]
    rfl
  | (k', v') :: es, j + 1, kd, h, h1, h2 => by
    have h0 := h2 0 (k', v') (by omega) rfl
    have := putKey_hit (y := y) (es := es) (j := j) (by simpa using h) h1 (fun i kd' hi he => h2 (i + 1) kd' (by omega) (by simpa using he))
    simp only at h0
    simp only [putKey, h0, this]
    rfl
theorem delKey_hit {kk : Nat} {x : D} : ∀ {es : List (D × D)} {j : Nat} {kd : D × D}, es[j]? = some kd → eqKey kk x kd.1 = some true → (∀ (i : Nat) (kd' : D × D), i < j → es[i]? = some kd' → eqKey kk x kd'.1 = some false) → delKey kk x es = some (es.eraseIdx j)
  | [], j, kd, h, _, _ => by simp at h
  | (k', v') :: es, 0, kd, h, h1, _ => by
    simp at h
    subst h
    simp only [delKey, h1]
    rfl
  | (k', v') :: es, j + 1, kd, h, h1, h2 => by
    have h0 := h2 0 (k', v') (by omega) rfl
    have := delKey_hit (es := es) (j := j) (by simpa using h) h1 (fun i kd' hi he => h2 (i + 1) kd' (by omega) (by simpa using he))
    simp only at h0
    simp only [delKey, h0, this]
    rfl
theorem delKey_miss {kk : Nat} {x : D} : ∀ {es : List (D × D)}, (∀ kd ∈ es, eqKey kk x kd.1 = some false) → delKey kk x es = some es
  | [], _ => rfl
  | (k', v') :: es, h => by
    have h0 := h (k', v') (by simp)
    have := delKey_miss (es := es) (fun kd hk => h kd (by simp [hk]))
    simp only at h0
    simp only [delKey, h0, this]
    rfl
theorem delKey_find {kk : Nat} {x : D} : ∀ {es r : List (D × D)}, delKey kk x es = some r → ∃ s, findKey kk x es = some s
  | [], r, _ => ⟨none, rfl⟩
  | (k', v') :: es, r, h => by
    simp only [delKey] at h
    split at h
    · rename_i hq; exact ⟨some v', by simp only [findKey, hq]⟩
    · rename_i hq
      simp only [Option.map_eq_some_iff] at h
      obtain ⟨r', h1, rfl⟩ := h
      obtain ⟨s, hs⟩ := delKey_find h1
      exact ⟨s, by simp only [findKey, hq, hs]⟩
    · cases h
theorem put_keys {kk : Nat} {x y : D} : ∀ {es r : List (D × D)}, putKey kk x y es = some r → (r.map (·.1) = es.map (·.1)) ∨ (r = es ++ [(x, y)] ∧ ∀ e ∈ es, eqKey kk x e.1 = some false)
  | [], r, h => by
    simp only [putKey, Option.some.injEq] at h
    subst h
    exact .inr ⟨rfl, fun e he => by simp at he⟩
  | (k', v) :: es, r, h => by
    simp only [putKey] at h
    split at h
    · rename_i h1
      cases h
      left
      simp [eqKey_true h1]
    · rename_i h1
      cases h0 : putKey kk x y es with
      | none => rw [h0] at h; cases h
      | some r0 =>
        rw [h0] at h
        cases h
        rcases put_keys h0 with h3 | ⟨h3, h4⟩
        · left
          simp [h3]
        · right
          refine ⟨by simp [h3], fun e he => ?_⟩
          rcases List.mem_cons.1 he with rfl | he
          · exact h1
          · exact h4 e he
    · cases h
theorem KeysOK.put {kk : Nat} {x y : D} {es r : List (D × D)} (h : putKey kk x y es = some r) (k : KeysOK es) : KeysOK r := by
  rcases put_keys h with h1 | ⟨rfl, h1⟩
  · unfold KeysOK at k ⊢
    rw [h1]
    exact k
  · unfold KeysOK at k ⊢
    rw [List.map_append, List.pairwise_append]
    refine ⟨k, by simp, fun a ha b hb => ?_⟩
    simp only [List.map_cons, List.map_nil, List.mem_singleton] at hb
    subst hb
    obtain ⟨e, he, rfl⟩ := List.mem_map.1 ha
    exact ⟨kk, eqKey_symm (h1 e he)⟩
theorem del_sub {kk : Nat} {x : D} : ∀ {es r : List (D × D)}, delKey kk x es = some r → r.Sublist es
  | [], r, h => by
    simp only [delKey, Option.some.injEq] at h
    subst h
    exact .slnil
  | (k', v) :: es, r, h => by
    simp only [delKey] at h
    split at h
    · cases h
      exact .cons _ (.refl _)
    · cases h0 : delKey kk x es with
      | none => rw [h0] at h; cases h
      | some r0 =>
        rw [h0] at h
        cases h
        exact (del_sub h0).cons_cons _
    · cases h
theorem KeysOK.del {kk : Nat} {x : D} {es r : List (D × D)} (h : delKey kk x es = some r) (k : KeysOK es) : KeysOK r :=
  List.Pairwise.sublist ((del_sub h).map (·.1)) k
end Go.Abs

/-
  The invariant that ties the interpreter's frame and store to the model's temporaries and memory; what it keeps when memory grows.
-/
namespace Go.Abs
open Go Go.RowKit

def Own (P : Program) (g : Gh) (w : World) (tag : Tag) (v : Value) (d : D) : Prop :=
  ∀ (es : List (List D)) (e : Nat), d = .sl es (some e) → (es = [] ∧ v = .slice none 0 0) ∨ ∃ i xs, P.info? e = some i ∧ 0 < i.size ∧ (∀ x ∈ es, x.length = i.size) ∧ w.ownsRow 0 e i.size v es.length xs ∧
    ∀ b, v.ownBlock = some b → g.ω b = tag ∧ ∀ off, es.length * i.size ≤ off → g.I b off = none

theorem Own.of_strip {P : Program} {g : Gh} {w : World} {tag : Tag} {v : Value} {d : D} : Own P g w tag v d.strip := by
  intro es e h; cases d <;> simp [D.strip] at h

theorem Own.of_ne {P : Program} {g : Gh} {w : World} {tag : Tag} {v : Value} {d : D} (h : d.strip = d) : Own P g w tag v d := by
  rw [← h]; exact .of_strip

def Blk (P : Program) (g : Gh) (w : World) (b sz : Nat) (tag : Nat → Tag) (cs : List D) : Prop :=
  ∃ arr ty, w.heap[b]? = some (.cells arr ty (0, 0)) ∧ arr.size = sz ∧ (∀ off, g.I b off = none) ∧
    ∀ (j : Nat) (d : D), cs[j]? = some d → d.plain = true ∧ ∃ v, arr[j]? = some v ∧ Rep g v d ∧ Own P g w (tag j) v d

theorem raw_len (d : D) : d.raw.length = d.cells.length := by cases d <;> simp [D.raw, D.cells]
theorem raw_plain {d : D} (h : d.cells.all D.plain = true) : d.raw.all D.plain = true := by
  cases d with
  | agg cs =>
    refine List.all_eq_true.2 fun x hx => ?_
    obtain ⟨y, hy, rfl⟩ := List.mem_map.1 (show x ∈ cs.map D.ripe from hx)
    have := List.all_eq_true.1 h y.strip (List.mem_map.2 ⟨y, hy, rfl⟩)
    cases y <;> simp_all [D.ripe, D.strip, D.plain]
  | _ => exact h
theorem Rep.ripe {g : Gh} {v : Value} {d : D} (h : Rep g v d) : Rep g v d.ripe := by
  cases h with
  | nils e => exact Rep.nil _
  | sl a len cap b off esz es own V hl hc hn ha he hI hR => exact .sl a len cap b off esz es none V hl hc hn ha he hI hR
  | _ => constructor <;> assumption
theorem own_ripe {P : Program} {g g0 : Gh} {w : World} {tag : Tag} {v : Value} {d : D} (h : Rep g0 v d) : Own P g w tag v d.ripe := by
  cases h with
  | nils e => exact fun es e' hd => by cases hd; exact .inl ⟨rfl, rfl⟩
  | sl a len cap b off esz es own V hl hc hn ha he hI hR => exact Own.of_strip (d := .sl es own)
  | _ => exact .of_ne rfl
theorem Rep.raws {g : Gh} {v : Value} {d : D} (h : Rep g v d) (hp : d.cells.all D.plain = true) : AllRep (Rep g) v.cells.toList d.raw := by
  cases d with
  | agg ds =>
    cases h with
    | agg vs _ hl hR hq =>
      refine ⟨by simpa [D.raw, Value.cells] using hl, fun i v d h1 h2 => ?_⟩
      simp only [D.raw, List.getElem?_map, Option.map_eq_some_iff] at h2
      obtain ⟨d0, h2, rfl⟩ := h2
      exact (hR i v d0 h1 h2).ripe
  | _ => exact h.cells hp
theorem own_raw {P : Program} {g : Gh} {w : World} {tag : Nat → Tag} {v : Value} {d : D} (h : Rep g v d) (ho : Own P g w (tag 0) v d) (hp : d.cells.all D.plain = true) (j : Nat) (u : Value) (e : D) (hj : v.cells.toList[j]? = some u) (hej : d.raw[j]? = some e) : Own P g w (tag j) u e := by
  cases d with
  | agg ds =>
    cases h with
    | agg vs _ hl hR hq =>
      simp only [D.raw, List.getElem?_map, Option.map_eq_some_iff] at hej
      obtain ⟨d0, h2, rfl⟩ := hej
      exact own_ripe (hR j u d0 (by simpa [Value.cells] using hj) h2)
  | _ =>
    have hj0 : j = 0 := by
      have := (List.getElem?_eq_some_iff.1 hej).1
      simp [D.raw] at this
      exact this
    subst hj0
    simp only [D.raw, List.getElem?_cons_zero, Option.some.injEq] at hej
    subst hej
    have hone : v.cells = #[v] := h.cells_one (by simpa [D.cells] using hp)
    rw [hone] at hj
    simp at hj
    subst hj
    exact ho

theorem own_rawS {P : Program} {g g0 : Gh} {w : World} {tag : Tag} {v : Value} {d : D} (h : Rep g0 v d) (hs : d.strip = d) (j : Nat) (u : Value) (e : D) (hj : v.cells.toList[j]? = some u) (hej : d.raw[j]? = some e) : Own P g w tag u e := by
  cases d with
  | agg ds =>
    cases h with
    | agg vs _ hl hR hq =>
      simp only [D.raw, List.getElem?_map, Option.map_eq_some_iff] at hej
      obtain ⟨d0, h2, rfl⟩ := hej
      exact own_ripe (hR j u d0 (by simpa [Value.cells] using hj) h2)
  | _ =>
    have hj0 : j = 0 := by
      have := (List.getElem?_eq_some_iff.1 hej).1
      simp [D.raw] at this
      exact this
    subst hj0
    simp only [D.raw, List.getElem?_cons_zero, Option.some.injEq] at hej
    subst hej
    exact .of_ne hs
theorem val_strip (fr : Fr) (x : X) : (fr.val x).strip = fr.val x := by cases x <;> exact strip_strip _

def MapRow (g : Gh) (ents : List MapEntry) (es : List (D × D)) : Prop :=
  ents.length = es.length ∧ ∀ (i : Nat) (e : MapEntry) (kd : D × D), ents[i]? = some e → es[i]? = some kd → Rep g e.key kd.1 ∧ Rep g e.val kd.2 ∧ kd.1.notL = true ∧ kd.2.notL = true ∧ kd.2.strip = kd.2

/-- A map's entries, in whatever order. -/
def MapRep (g : Gh) (ents : List MapEntry) (es : List (D × D)) : Prop := ∃ es', es.Perm es' ∧ KeysOK es ∧ MapRow g ents es'
theorem MapRep.len {g : Gh} {ents : List MapEntry} {es : List (D × D)} (h : MapRep g ents es) : ents.length = es.length := by
  obtain ⟨es', h1, _, h2⟩ := h
  rw [h2.1, h1.length_eq]

/-- The stamps of a map's entries. -/
def Born (ents : Array MapEntry) (clock : Nat) : Prop := (∀ e ∈ ents.toList, e.born < clock) ∧ (ents.toList.map (·.born)).Nodup

structure HInv (P : Program) (g : Gh) (w : World) (σ : St) : Prop where
  imm : ∀ (b off : Nat) (v : Value), g.I b off = some v → w.cell? ⟨b, off, none⟩ = some v
  n : g.n = σ.length
  cells : ∀ (o : Nat) (cs : List D), σ[o]? = some (.cells cs) → g.ω (g.μ o) = .obj o ∧ Blk P g w (g.μ o) (g.sz o) (.obuf o) cs
  maps : ∀ (o : Nat) (es : List (D × D)), σ[o]? = some (.map es) → g.ω (g.μ o) = .obj o ∧ ∃ ents clock, w.heap[g.μ o]? = some (.map ents clock) ∧ MapRep g ents.toList es ∧ Born ents clock
  rows : ∀ (o e : Nat) (cs : List D), σ[o]? = some (.cells cs) → σ[o + 1]? = some (.row e) → ∃ arr, w.heap[g.μ o]? = some (.cells arr e (0, 0))
  mapsR : ∀ (o : Nat) (es : List (D × D)), σ[o]? = some (.mapR es) → g.ω (g.μ o) = .ro o ∧ ∃ ents clock, w.heap[g.μ o]? = some (.map ents clock) ∧ MapRep g ents.toList es ∧ Born ents clock

structure SInv (P : Program) (g : Gh) (w : World) (fr : Fr) (tm : Array Value) : Prop where
  size : tm.size = fr.slots.length
  blen : fr.boxes.length = fr.slots.length
  slots : ∀ (t : Nat) (d : D), fr.slots[t]? = some d → ∃ v, tm[t]? = some v ∧ Rep g v d ∧ Own P g w (.sbuf t) v d ∧ ∀ s off, d = .lptr s off → ∃ cs, fr.boxes[s]? = some (some cs)
  boxes : ∀ (t : Nat) (cs : List D), fr.boxes[t]? = some (some cs) → g.ω (g.β t) = .box t ∧ ∃ sz, Blk P g w (g.β t) sz (.bbuf t) cs

/-- The deferred calls of the frame. -/
def DefRep (g : Gh) (ds : List Deferred) (fs : List (D × List D)) : Prop :=
  ds.length = fs.length ∧ ∀ (i : Nat) (d : Deferred) (f : D × List D), ds[i]? = some d → fs[i]? = some f →
    ∃ fn caps, d.target = .fn (.func fn) caps ∧ ∃ cd, f.1 = .func fn cd ∧ Rep g (.func (.func fn) #[] caps) f.1 ∧ AllRep (Rep g) d.args.toList f.2 ∧ f.2.all D.notL = true

/-- .. above what lies below. -/
def DefOK (g : Gh) (ds : List Deferred) (fs : List (D × List D)) : Prop := ∃ l, ds = l ++ g.base ∧ DefRep g l fs

structure Inv (P : Program) (g : Gh) (w : World) (fr : Fr) (σ : St) (a : Act) : Prop where
  h : HInv P g w σ
  s : SInv P g w fr a.tmps
  d : DefOK g a.defers fr.defers

/-- What is claimed of a block with that tag. -/
def claims (fr : Fr) (σ : St) : Tag → Prop
  | .sbuf t => ∃ es e, fr.slots[t]? = some (.sl es (some e))
  | .box t => ∃ cs, fr.boxes[t]? = some (some cs)
  | .bbuf t j => ∃ cs es e, fr.boxes[t]? = some (some cs) ∧ cs[j]? = some (.sl es (some e))
  | .obj o => (∃ cs, σ[o]? = some (.cells cs)) ∨ ∃ es, σ[o]? = some (.map es)
  | .obuf o j => ∃ cs es e, σ[o]? = some (.cells cs) ∧ cs[j]? = some (.sl es (some e))
  | .ro o => ∃ es, σ[o]? = some (.mapR es)
  | _ => False

structure Keep (g : Gh) (w : World) (g' : Gh) (w' : World) (C : Nat → Prop) : Prop where
  le : g.Le g'
  size : w.heap.size ≤ w'.heap.size
  blk : ∀ b, b < w.heap.size → ¬ C b → w'.heap[b]? = w.heap[b]? ∧ g'.ω b = g.ω b ∧ ∀ off, g'.I b off = g.I b off

theorem lt_of_heap {w : World} {b : Nat} {o : Go.Obj} (h : w.heap[b]? = some o) : b < w.heap.size := (Array.getElem?_eq_some_iff.1 h).1

theorem ownsRow_same {w w' : World} {e sz n : Nat} {v : Value} {xs : List Value} (h : w.ownsRow 0 e sz v n xs)
    (hb : ∀ b, v.ownBlock = some b → b < w.heap.size → w'.heap[b]? = w.heap[b]?) : w'.ownsRow 0 e sz v n xs := by
  refine ⟨h.1, ?_⟩
  rcases h.2 with h2 | ⟨b, cap, cur, rfl, h3, h4, h5⟩
  · exact .inl h2
  · exact .inr ⟨b, cap, cur, rfl, h3, (hb b rfl (lt_of_heap h4)).trans h4, h5⟩

theorem ownsRow_lt {w : World} {e sz n : Nat} {v : Value} {xs : List Value} (h : w.ownsRow 0 e sz v n xs) {b : Nat} (hb : v.ownBlock = some b) : b < w.heap.size := (h.lt b hb).2

section
variable {P : Program} {g g' : Gh} {w w' : World} {C : Nat → Prop}

theorem Own.keep {tag : Tag} {v : Value} {d : D} (h : Own P g w tag v d) (k : Keep g w g' w' C)
    (hC : ∀ b es e, d = .sl es (some e) → C b → g.ω b ≠ tag) : Own P g' w' tag v d := by
  intro es e hd
  rcases h es e hd with h0 | ⟨i, xs, h1, h2, h3, h4, h5⟩
  · exact .inl h0
  refine .inr ?_
  have hn : ∀ b, v.ownBlock = some b → b < w.heap.size ∧ ¬ C b := fun b hb => ⟨ownsRow_lt h4 hb, fun hc => hC b es e hd hc (h5 b hb).1⟩
  refine ⟨i, xs, h1, h2, h3, ownsRow_same h4 (fun b hb hl => (k.blk b hl (hn b hb).2).1), fun b hb => ?_⟩
  obtain ⟨q1, q2, q3⟩ := k.blk b (hn b hb).1 (hn b hb).2
  exact ⟨q2.trans (h5 b hb).1, fun off ho => (q3 off).trans ((h5 b hb).2 off ho)⟩

theorem Blk.keep {b sz : Nat} {tag : Nat → Tag} {cs : List D} (h : Blk P g w b sz tag cs) (k : Keep g w g' w' C) (hb : ¬ C b)
    (hC : ∀ j es e, cs[j]? = some (.sl es (some e)) → ∀ b, C b → g.ω b ≠ tag j) : Blk P g' w' b sz tag cs := by
  obtain ⟨arr, ty, h1, h2, h3, h4⟩ := h
  obtain ⟨q1, _, q3⟩ := k.blk b (lt_of_heap h1) hb
  refine ⟨arr, ty, q1.trans h1, h2, fun off => (q3 off).trans (h3 off), fun j d hd => ?_⟩
  obtain ⟨hp, v, hv, hr, ho⟩ := h4 j d hd
  exact ⟨hp, v, hv, hr.mono k.le (fun t off e => by subst e; simp [D.plain] at hp), ho.keep k (fun b' es e hde => by subst hde; exact hC j es e hd b')⟩

theorem MapRow.mono {ents : List MapEntry} {es : List (D × D)} (h : MapRow g ents es) (k : g.Le g') : MapRow g' ents es :=
  ⟨h.1, fun i e kd h1 h2 => by
    obtain ⟨a, b, c, d, x⟩ := h.2 i e kd h1 h2
    exact ⟨a.mono k (fun t off q => by rw [q] at c; simp [D.notL] at c), b.mono k (fun t off q => by rw [q] at d; simp [D.notL] at d), c, d, x⟩⟩

theorem MapRep.mono {ents : List MapEntry} {es : List (D × D)} (h : MapRep g ents es) (k : g.Le g') : MapRep g' ents es := by
  obtain ⟨es', h1, h2, h3⟩ := h
  exact ⟨es', h1, h2, h3.mono k⟩

theorem DefRep.mono {ds : List Deferred} {fs : List (D × List D)} (h : DefRep g ds fs) (k : g.Le g') : DefRep g' ds fs :=
  ⟨h.1, fun i d f h1 h2 => by
    obtain ⟨fn, caps, a, cd, b, c, e, x⟩ := h.2 i d f h1 h2
    refine ⟨fn, caps, a, cd, b, c.mono k (fun t off q => by rw [b] at q; cases q), ⟨e.1, fun i v d q1 q2 => (e.2 i v d q1 q2).mono k (fun t off q => by rw [q] at q2; have := all_get x q2; simp [D.notL] at this)⟩, x⟩⟩

theorem DefOK.mono {ds : List Deferred} {fs : List (D × List D)} (h : DefOK g ds fs) (k : g.Le g') (hb : g'.base = g.base := by rfl) : DefOK g' ds fs := by
  obtain ⟨l, h1, h2⟩ := h
  exact ⟨l, by rw [hb]; exact h1, h2.mono k⟩

theorem HInv.cells_keep {σ : St} (h : HInv P g w σ) (k : Keep g w g' w' C) {fr : Fr} (hC : ∀ b, C b → ¬ claims fr σ (g.ω b)) (o : Nat) (cs : List D) (ho : σ[o]? = some (.cells cs)) :
    g'.ω (g'.μ o) = .obj o ∧ Blk P g' w' (g'.μ o) (g'.sz o) (.obuf o) cs := by
  obtain ⟨h1, h2⟩ := h.cells o cs ho
  have hlt : o < g.n := by rw [h.n]; exact (List.getElem?_eq_some_iff.1 ho).1
  have hnc : ¬ C (g.μ o) := fun hc => hC _ hc (by rw [h1]; exact .inl ⟨cs, ho⟩)
  have hb : g.μ o < w.heap.size := by obtain ⟨arr, ty, q, _⟩ := h2; exact lt_of_heap q
  rw [k.le.μ o hlt, k.le.sz o hlt]
  refine ⟨(k.blk _ hb hnc).2.1.trans h1, h2.keep k hnc (fun j es e hj b hc he => hC b hc (by rw [he]; exact ⟨cs, es, e, ho, hj⟩))⟩

theorem HInv.maps_keep {σ : St} (h : HInv P g w σ) (k : Keep g w g' w' C) {fr : Fr} (hC : ∀ b, C b → ¬ claims fr σ (g.ω b)) (o : Nat) (es : List (D × D)) (ho : σ[o]? = some (.map es)) :
    g'.ω (g'.μ o) = .obj o ∧ ∃ ents clock, w'.heap[g'.μ o]? = some (.map ents clock) ∧ MapRep g' ents.toList es ∧ Born ents clock := by
  obtain ⟨h1, ents, clock, h2, h3, h4⟩ := h.maps o es ho
  have hlt : o < g.n := by rw [h.n]; exact (List.getElem?_eq_some_iff.1 ho).1
  have hnc : ¬ C (g.μ o) := fun hc => hC _ hc (by rw [h1]; exact .inr ⟨es, ho⟩)
  rw [k.le.μ o hlt]
  obtain ⟨q1, q2, _⟩ := k.blk _ (lt_of_heap h2) hnc
  exact ⟨q2.trans h1, ents, clock, q1.trans h2, h3.mono k.le, h4⟩

theorem HInv.mapsR_keep {σ : St} (h : HInv P g w σ) (k : Keep g w g' w' C) {fr : Fr} (hC : ∀ b, C b → ¬ claims fr σ (g.ω b)) (o : Nat) (es : List (D × D)) (ho : σ[o]? = some (.mapR es)) :
    g'.ω (g'.μ o) = .ro o ∧ ∃ ents clock, w'.heap[g'.μ o]? = some (.map ents clock) ∧ MapRep g' ents.toList es ∧ Born ents clock := by
  obtain ⟨h1, ents, clock, h2, h3, h4⟩ := h.mapsR o es ho
  have hlt : o < g.n := by rw [h.n]; exact (List.getElem?_eq_some_iff.1 ho).1
  have hnc : ¬ C (g.μ o) := fun hc => hC _ hc (by rw [h1]; exact ⟨es, ho⟩)
  rw [k.le.μ o hlt]
  obtain ⟨q1, q2, _⟩ := k.blk _ (lt_of_heap h2) hnc
  exact ⟨q2.trans h1, ents, clock, q1.trans h2, h3.mono k.le, h4⟩
/-- A map that may be read. -/
theorem HInv.mapOf {σ : St} (h : HInv P g w σ) {o : Nat} {es : List (D × D)} (ho : mapOf σ o = some es) : ∃ ents clock, w.heap[g.μ o]? = some (.map ents clock) ∧ MapRep g ents.toList es ∧ Born ents clock := by
  unfold Abs.mapOf at ho
  split at ho
  · rename_i es' hm
    cases ho
    exact (h.maps o es hm).2
  · rename_i es' hm
    cases ho
    exact (h.mapsR o es hm).2
  · cases ho

theorem HInv.rows_keep {σ : St} (h : HInv P g w σ) (k : Keep g w g' w' C) {fr : Fr} (hC : ∀ b, C b → ¬ claims fr σ (g.ω b)) (o e : Nat) (cs : List D) (ho : σ[o]? = some (.cells cs)) (hr : σ[o + 1]? = some (.row e)) :
    ∃ arr, w'.heap[g'.μ o]? = some (.cells arr e (0, 0)) := by
  obtain ⟨h1, _⟩ := h.cells o cs ho
  obtain ⟨arr, h2⟩ := h.rows o e cs ho hr
  have hlt : o < g.n := by rw [h.n]; exact (List.getElem?_eq_some_iff.1 ho).1
  have hnc : ¬ C (g.μ o) := fun hc => hC _ hc (by rw [h1]; exact .inl ⟨cs, ho⟩)
  rw [k.le.μ o hlt]
  exact ⟨arr, (k.blk _ (lt_of_heap h2) hnc).1.trans h2⟩
/-- One object more that is no mark. -/
theorem rows_snoc {σ : St} {ob : Obj} {Q : Nat → Nat → List D → Prop} (hob : ∀ e, ob ≠ .row e) (h : ∀ (o e : Nat) (cs : List D), σ[o]? = some (.cells cs) → σ[o + 1]? = some (.row e) → Q o e cs) (o e : Nat) (cs : List D)
    (h1 : (σ ++ [ob])[o]? = some (.cells cs)) (h2 : (σ ++ [ob])[o + 1]? = some (.row e)) : Q o e cs := by
  have hlt : o + 1 < (σ ++ [ob]).length := (List.getElem?_eq_some_iff.1 h2).1
  simp only [List.length_append, List.length_cons, List.length_nil] at hlt
  rw [List.getElem?_append_left (by omega)] at h1
  by_cases hl : o + 1 < σ.length
  · rw [List.getElem?_append_left hl] at h2
    exact h o e cs h1 h2
  · rw [List.getElem?_append_right (by omega)] at h2
    have : o + 1 - σ.length = 0 := by omega
    rw [this] at h2
    simp at h2
    exact absurd h2 (hob e)
/-- One object is another one now. -/
theorem rows_set {σ : St} {k : Nat} {ob : Obj} {Q : Nat → Nat → Prop} (hob : ∀ e, ob ≠ .row e) (hk : ∀ cs, ob = .cells cs → ∃ cs', σ[k]? = some (.cells cs')) (h : ∀ (o e : Nat) (cs : List D), σ[o]? = some (.cells cs) → σ[o + 1]? = some (.row e) → Q o e) (o e : Nat) (cs : List D)
    (h1 : (σ.set k ob)[o]? = some (.cells cs)) (h2 : (σ.set k ob)[o + 1]? = some (.row e)) : Q o e := by
  rw [List.getElem?_set] at h1 h2
  have h2' : σ[o + 1]? = some (.row e) := by
    by_cases hq : k = o + 1
    · rw [if_pos hq] at h2
      split at h2
      · simp only [Option.some.injEq] at h2
        exact absurd h2 (hob e)
      · cases h2
    · rwa [if_neg hq] at h2
  by_cases hq : k = o
  · rw [if_pos hq] at h1
    split at h1
    · simp only [Option.some.injEq] at h1
      obtain ⟨cs', hc⟩ := hk cs h1
      rw [hq] at hc
      exact h o e cs' hc h2'
    · cases h1
  · rw [if_neg hq] at h1
    exact h o e cs h1 h2'

theorem SInv.keep {fr : Fr} {σ : St} {tm : Array Value} (s : SInv P g w fr tm) (k : Keep g w g' w' C) (hC : ∀ b, C b → ¬ claims fr σ (g.ω b)) (hβ : ∀ t cs, fr.boxes[t]? = some (some cs) → g'.β t = g.β t) : SInv P g' w' fr tm := by
  refine ⟨s.size, s.blen, fun t d hd => ?_, fun t cs hb => ?_⟩
  · obtain ⟨v, h1, h2, h3, h4⟩ := s.slots t d hd
    exact ⟨v, h1, h2.mono k.le (fun t off e => by obtain ⟨cs, hb⟩ := h4 t off e; exact hβ t cs hb), h3.keep k (fun b es e hde hc he => hC b hc (by rw [he]; subst hde; exact ⟨es, e, hd⟩)), h4⟩
  · obtain ⟨h1, sz, h2⟩ := s.boxes t cs hb
    have hnc : ¬ C (g.β t) := fun hc => hC _ hc (by rw [h1]; exact ⟨cs, hb⟩)
    have hlt : g.β t < w.heap.size := by obtain ⟨arr, ty, q, _⟩ := h2; exact lt_of_heap q
    rw [hβ t cs hb]
    exact ⟨(k.blk _ hlt hnc).2.1.trans h1, sz, h2.keep k hnc (fun j es e hj b hc he => hC b hc (by rw [he]; exact ⟨cs, es, e, hb, hj⟩))⟩

theorem Inv.keep {fr : Fr} {σ : St} {a : Act} (i : Inv P g w fr σ a) (k : Keep g w g' w' C) (hC : ∀ b, C b → ¬ claims fr σ (g.ω b)) (hβ : ∀ t cs, fr.boxes[t]? = some (some cs) → g'.β t = g.β t)
    (himm : ∀ (b off : Nat) (v : Value), g'.I b off = some v → w'.cell? ⟨b, off, none⟩ = some v) (hn : g'.n = g.n) (hbase : g'.base = g.base := by rfl) : Inv P g' w' fr σ a :=
  ⟨⟨himm, hn.trans i.h.n, i.h.cells_keep k hC, i.h.maps_keep k hC, i.h.rows_keep k hC, i.h.mapsR_keep k hC⟩, i.s.keep k hC hβ, i.d.mono k.le hbase⟩

end

/-- From one moment of a call to a later one: what isn't the call's own is as it was. -/
structure Ext (g : Gh) (w : World) (g' : Gh) (w' : World) : Prop where
  le : g.Le g'
  os : w'.os = w.os
  tape : w'.tape = w.tape
  output : w'.output = w.output
  size : w.heap.size ≤ w'.heap.size
  blk : ∀ b, b < w.heap.size → (g.ω b).mine = false → w'.heap[b]? = w.heap[b]? ∧ g'.ω b = g.ω b
  new : ∀ (b off : Nat) (v : Value), g'.I b off = some v → g.I b off = some v ∨ w.heap.size ≤ b ∨ (g.ω b).mine = true
  base : g'.base = g.base

theorem Ext.refl (g : Gh) (w : World) : Ext g w g w := ⟨.refl g, rfl, rfl, rfl, Nat.le_refl _, fun _ _ _ => ⟨rfl, rfl⟩, fun _ _ _ h => .inl h, rfl⟩

theorem Ext.trans {g g1 g2 : Gh} {w w1 w2 : World} (h : Ext g w g1 w1) (k : Ext g1 w1 g2 w2) : Ext g w g2 w2 := by
  refine ⟨h.le.trans k.le, k.os.trans h.os, k.tape.trans h.tape, k.output.trans h.output, Nat.le_trans h.size k.size, fun b hb hm => ?_, fun b off v hv => ?_, k.base.trans h.base⟩
  · obtain ⟨h1, h2⟩ := h.blk b hb hm
    obtain ⟨k1, k2⟩ := k.blk b (Nat.lt_of_lt_of_le hb h.size) (by rw [h2]; exact hm)
    exact ⟨k1.trans h1, k2.trans h2⟩
  · rcases k.new b off v hv with h1 | h1 | h1
    · exact h.new b off v h1
    · exact .inr (.inl (Nat.le_trans h.size h1))
    · rcases Nat.lt_or_ge b w.heap.size with hb | hb
      · by_cases hm : (g.ω b).mine = true
        · exact .inr (.inr hm)
        · have := (h.blk b hb (by simpa using hm)).2
          rw [this] at h1
          exact absurd h1 hm
      · exact .inr (.inl hb)

/-- One step: what is changed is the call's own. -/
theorem Ext.of_keep {g g' : Gh} {w w' : World} {C : Nat → Prop} (k : Keep g w g' w' C) (hm : ∀ b, C b → b < w.heap.size → (g.ω b).mine = true)
    (os : w'.os = w.os) (tape : w'.tape = w.tape) (output : w'.output = w.output) (base : g'.base = g.base := by rfl) : Ext g w g' w' := by
  refine ⟨k.le, os, tape, output, k.size, fun b hb hmn => ?_, fun b off v hv => ?_, base⟩
  · obtain ⟨h1, h2, _⟩ := k.blk b hb (fun hc => by rw [hm b hc hb] at hmn; cases hmn)
    exact ⟨h1, h2⟩
  · rcases Nat.lt_or_ge b w.heap.size with hb | hb
    · by_cases hc : C b
      · exact .inr (.inr (hm b hc hb))
      · exact .inl ((k.blk b hb hc).2.2 off ▸ hv)
    · exact .inr (.inl hb)

end Go.Abs
